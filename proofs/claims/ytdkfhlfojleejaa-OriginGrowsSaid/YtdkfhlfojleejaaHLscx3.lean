-- LAID by wip/hand.py, a program of this repository, over the kit's print: contracts of our own are put in. Lean checks it.
import Derived.Test.YtdkfhlfojleejaaHLscx0
import Derived.Test.YtdkfhlfojleejaaHLscx1
import Derived.Test.YtdkfhlfojleejaaHLscx2
namespace Go.Proofs.Ytdkfhlfojleejaa.HLsc
open Go.RowKit Go.Proofs.YtdkfhlfojleejaaW.PrintWords Go.Proofs.YtdkfhlfojleejaaW.PrintLast Go.Proofs.YtdkfhlfojleejaaW.PrintMore
attribute [local go_sem] gtr_str leq_str max2_int min2_int max_two min_two max_three min_three max_four min_four   -- for this text's walks alone
set_option linter.unusedVariables false
set_option linter.unusedSimpArgs false

attribute [local go_sem high] eqA72 eqA76
/-! ### waypointref32_Contents: function 25 -/
mutual
def waypointref32_Contents.j0 : Nat → Bool → Int → Int → Int → Bool → List (S72) → List (S76) → Int → Int → Int → Bool → List (S72) → List (S76) → Option (Bool)
 | 0, _, _, _, _, _, _, _, _, _, _, _, _, _ => none
 | k + 1, x29, x102000, x102001, x102002, x102003, x102004, x102005, x103000, x103001, x103002, x103003, x103004, x103005 => if x29 = true then (some false) else (waypointref32_Contents.l0 k 0 x102000 x102001 x102002 x102003 x102004 x102005 x103000 x103001 x103002 x103003 x103004 x103005)
def waypointref32_Contents.l0 : Nat → Int → Int → Int → Int → Bool → List (S72) → List (S76) → Int → Int → Int → Bool → List (S72) → List (S76) → Option (Bool)
 | 0, _, _, _, _, _, _, _, _, _, _, _, _, _ => none
 | k + 1, x5, x102000, x102001, x102002, x102003, x102004, x102005, x103000, x103001, x103002, x103003, x103004, x103005 => if x5 < (x102004.length : Int) then (if 0 ≤ x5 then (if x5 < (x103004.length : Int) then (if (!(((rd_T72 x102004 x5).f0) == ((rd_T72 x103004 x5).f0)) || (!(((rd_T72 x102004 x5).f1) == ((rd_T72 x103004 x5).f1)) || (!(((rd_T72 x102004 x5).f2) == ((rd_T72 x103004 x5).f2))))) = true then (some false) else (waypointref32_Contents.l0 k (wrap64 (x5 + 1)) x102000 x102001 x102002 x102003 x102004 x102005 x103000 x103001 x103002 x103003 x103004 x103005)) else (none)) else (none)) else (waypointref32_Contents.l1 k 0 x102000 x102001 x102002 x102003 x102004 x102005 x103000 x103001 x103002 x103003 x103004 x103005)
def waypointref32_Contents.l1 : Nat → Int → Int → Int → Int → Bool → List (S72) → List (S76) → Int → Int → Int → Bool → List (S72) → List (S76) → Option (Bool)
 | 0, _, _, _, _, _, _, _, _, _, _, _, _, _ => none
 | k + 1, x6, x102000, x102001, x102002, x102003, x102004, x102005, x103000, x103001, x103002, x103003, x103004, x103005 => if x6 < (x102005.length : Int) then (if 0 ≤ x6 then (if x6 < (x103005.length : Int) then (if (!(((rd_T76 x102005 x6).f0) == ((rd_T76 x103005 x6).f0)) || (!(((rd_T76 x102005 x6).f1) == ((rd_T76 x103005 x6).f1)))) = true then (some false) else (waypointref32_Contents.l1 k (wrap64 (x6 + 1)) x102000 x102001 x102002 x102003 x102004 x102005 x103000 x103001 x103002 x103003 x103004 x103005)) else (none)) else (none)) else (some true)
end
def waypointref32_Contents.f (k : Nat) (a0_0 : Int) (a0_1 : Int) (a0_2 : Int) (a0_3 : Bool) (l0_4 : List (S72)) (l0_5 : List (S76)) (a1_0 : Int) (a1_1 : Int) (a1_2 : Int) (a1_3 : Bool) (l1_4 : List (S72)) (l1_5 : List (S76)) : Option (Bool) := if (a0_3 != a1_3) = true then (waypointref32_Contents.j0 k true a0_0 a0_1 a0_2 a0_3 l0_4 l0_5 a1_0 a1_1 a1_2 a1_3 l1_4 l1_5) else (if (l0_4.length : Int) = (l1_4.length : Int) then (waypointref32_Contents.j0 k ((l0_5.length : Int) != (l1_5.length : Int)) a0_0 a0_1 a0_2 a0_3 l0_4 l0_5 a1_0 a1_1 a1_2 a1_3 l1_4 l1_5) else (waypointref32_Contents.j0 k true a0_0 a0_1 a0_2 a0_3 l0_4 l0_5 a1_0 a1_1 a1_2 a1_3 l1_4 l1_5))
theorem waypointref32_Contents.mono_l : ∀ k, (∀ y0 y1 y2 y3 y4 y5 y6 y7 y8 y9 y10 y11 y12, LeO (waypointref32_Contents.j0 k y0 y1 y2 y3 y4 y5 y6 y7 y8 y9 y10 y11 y12) (waypointref32_Contents.j0 (k + 1) y0 y1 y2 y3 y4 y5 y6 y7 y8 y9 y10 y11 y12)) ∧ (∀ y0 y1 y2 y3 y4 y5 y6 y7 y8 y9 y10 y11 y12, LeO (waypointref32_Contents.l0 k y0 y1 y2 y3 y4 y5 y6 y7 y8 y9 y10 y11 y12) (waypointref32_Contents.l0 (k + 1) y0 y1 y2 y3 y4 y5 y6 y7 y8 y9 y10 y11 y12)) ∧ (∀ y0 y1 y2 y3 y4 y5 y6 y7 y8 y9 y10 y11 y12, LeO (waypointref32_Contents.l1 k y0 y1 y2 y3 y4 y5 y6 y7 y8 y9 y10 y11 y12) (waypointref32_Contents.l1 (k + 1) y0 y1 y2 y3 y4 y5 y6 y7 y8 y9 y10 y11 y12))
 | 0 => ⟨fun _ _ _ _ _ _ _ _ _ _ _ _ _ r h => by simp [waypointref32_Contents.j0] at h, fun _ _ _ _ _ _ _ _ _ _ _ _ _ r h => by simp [waypointref32_Contents.l0] at h, fun _ _ _ _ _ _ _ _ _ _ _ _ _ r h => by simp [waypointref32_Contents.l1] at h⟩
 | k + 1 => by
  obtain ⟨ih0, ih1, ih2⟩ := waypointref32_Contents.mono_l k
  refine ⟨?_, ?_, ?_⟩
  ·intro y0 y1 y2 y3 y4 y5 y6 y7 y8 y9 y10 y11 y12
   unfold waypointref32_Contents.j0
   repeat' first
   | (with_reducible exact ih0 _ _ _ _ _ _ _ _ _ _ _ _ _)
   | (with_reducible exact ih1 _ _ _ _ _ _ _ _ _ _ _ _ _)
   | (with_reducible exact ih2 _ _ _ _ _ _ _ _ _ _ _ _ _)
   | (with_reducible exact LeO.refl _)
   | (with_reducible exact LeO.none _)
   | (with_reducible refine LeO.ite ?_ ?_)
   | (with_reducible refine LeO.bind ?_ (fun _ => ?_))
   | exact ih0 _ _ _ _ _ _ _ _ _ _ _ _ _
   | exact ih1 _ _ _ _ _ _ _ _ _ _ _ _ _
   | exact ih2 _ _ _ _ _ _ _ _ _ _ _ _ _
   | exact LeO.none _
   | refine LeO.ite ?_ ?_
   | refine LeO.bind ?_ (fun _ => ?_)
  ·intro y0 y1 y2 y3 y4 y5 y6 y7 y8 y9 y10 y11 y12
   unfold waypointref32_Contents.l0
   repeat' first
   | (with_reducible exact ih0 _ _ _ _ _ _ _ _ _ _ _ _ _)
   | (with_reducible exact ih1 _ _ _ _ _ _ _ _ _ _ _ _ _)
   | (with_reducible exact ih2 _ _ _ _ _ _ _ _ _ _ _ _ _)
   | (with_reducible exact LeO.refl _)
   | (with_reducible exact LeO.none _)
   | (with_reducible refine LeO.ite ?_ ?_)
   | (with_reducible refine LeO.bind ?_ (fun _ => ?_))
   | exact ih0 _ _ _ _ _ _ _ _ _ _ _ _ _
   | exact ih1 _ _ _ _ _ _ _ _ _ _ _ _ _
   | exact ih2 _ _ _ _ _ _ _ _ _ _ _ _ _
   | exact LeO.none _
   | refine LeO.ite ?_ ?_
   | refine LeO.bind ?_ (fun _ => ?_)
  ·intro y0 y1 y2 y3 y4 y5 y6 y7 y8 y9 y10 y11 y12
   unfold waypointref32_Contents.l1
   repeat' first
   | (with_reducible exact ih0 _ _ _ _ _ _ _ _ _ _ _ _ _)
   | (with_reducible exact ih1 _ _ _ _ _ _ _ _ _ _ _ _ _)
   | (with_reducible exact ih2 _ _ _ _ _ _ _ _ _ _ _ _ _)
   | (with_reducible exact LeO.refl _)
   | (with_reducible exact LeO.none _)
   | (with_reducible refine LeO.ite ?_ ?_)
   | (with_reducible refine LeO.bind ?_ (fun _ => ?_))
   | exact ih0 _ _ _ _ _ _ _ _ _ _ _ _ _
   | exact ih1 _ _ _ _ _ _ _ _ _ _ _ _ _
   | exact ih2 _ _ _ _ _ _ _ _ _ _ _ _ _
   | exact LeO.none _
   | refine LeO.ite ?_ ?_
   | refine LeO.bind ?_ (fun _ => ?_)
theorem waypointref32_Contents.mono : ∀ a0 a1 a2 a3 a4 a5 a6 a7 a8 a9 a10 a11 k, LeO (waypointref32_Contents.f k a0 a1 a2 a3 a4 a5 a6 a7 a8 a9 a10 a11) (waypointref32_Contents.f (k + 1) a0 a1 a2 a3 a4 a5 a6 a7 a8 a9 a10 a11) := by
 intro a0 a1 a2 a3 a4 a5 a6 a7 a8 a9 a10 a11 k
 obtain ⟨ih0, ih1, ih2⟩ := waypointref32_Contents.mono_l k
 unfold waypointref32_Contents.f
 repeat' first
   | (with_reducible exact ih0 _ _ _ _ _ _ _ _ _ _ _ _ _)
   | (with_reducible exact ih1 _ _ _ _ _ _ _ _ _ _ _ _ _)
   | (with_reducible exact ih2 _ _ _ _ _ _ _ _ _ _ _ _ _)
   | (with_reducible exact LeO.refl _)
   | (with_reducible exact LeO.none _)
   | (with_reducible refine LeO.ite ?_ ?_)
   | (with_reducible refine LeO.bind ?_ (fun _ => ?_))
   | exact ih0 _ _ _ _ _ _ _ _ _ _ _ _ _
   | exact ih1 _ _ _ _ _ _ _ _ _ _ _ _ _
   | exact ih2 _ _ _ _ _ _ _ _ _ _ _ _ _
   | exact LeO.none _
   | refine LeO.ite ?_ ?_
   | refine LeO.bind ?_ (fun _ => ?_)
set_option maxHeartbeats 8000000 in
set_option maxRecDepth 100000 in
theorem waypointref32_Contents.calls (k : Nat) (a0_0 : Int) (a0_1 : Int) (a0_2 : Int) (a0_3 : Bool) (A0_4 : Option Addr) (c0_4 : Nat) (l0_4 : List (S72)) (A0_5 : Option Addr) (c0_5 : Nat) (l0_5 : List (S76)) (a1_0 : Int) (a1_1 : Int) (a1_2 : Int) (a1_3 : Bool) (A1_4 : Option Addr) (c1_4 : Nat) (l1_4 : List (S72)) (A1_5 : Option Addr) (c1_5 : Nat) (l1_5 : List (S76)) (r : Bool) (w : World) (hr0_4 : Kd.C k72 w A0_4 l0_4.length l0_4) (hc0_4 : l0_4.length ≤ c0_4) (hr0_5 : Kd.C k76 w A0_5 l0_5.length l0_5) (hc0_5 : l0_5.length ≤ c0_5) (hr1_4 : Kd.C k72 w A1_4 l1_4.length l1_4) (hc1_4 : l1_4.length ≤ c1_4) (hr1_5 : Kd.C k76 w A1_5 l1_5.length l1_5) (hc1_5 : l1_5.length ≤ c1_5) (h : waypointref32_Contents.f k a0_0 a0_1 a0_2 a0_3 l0_4 l0_5 a1_0 a1_1 a1_2 a1_3 l1_4 l1_5 = some r) :
  Calls Try.prog 25 #[.agg #[.int .i64 a0_0, .int .i64 a0_1, .int .i64 a0_2, .bool a0_3, .slice A0_4 l0_4.length c0_4, .slice A0_5 l0_5.length c0_5], .agg #[.int .i64 a1_0, .int .i64 a1_1, .int .i64 a1_2, .bool a1_3, .slice A1_4 l1_4.length c1_4, .slice A1_5 l1_5.length c1_5]] w fun e w' => e = .returned (.bool r) ∧ Below w.heap.size w w' := by
 have hu32 := Try.underlying32
 have hu72 := Try.underlying72
 have hu76 := Try.underlying76
 have HR0_4 := Aside0.mk hr0_4
 have HC0_4 := Aside0.mk hc0_4
 clear hr0_4 hc0_4
 have HR0_5 := Aside0.mk hr0_5
 have HC0_5 := Aside0.mk hc0_5
 clear hr0_5 hc0_5
 have HR1_4 := Aside0.mk hr1_4
 have HC1_4 := Aside0.mk hc1_4
 clear hr1_4 hc1_4
 have HR1_5 := Aside0.mk hr1_5
 have HC1_5 := Aside0.mk hc1_5
 clear hr1_5 hc1_5
 have HB := Aside0.mk (Below.refl w.heap.size w)
 have H : (if (a0_3 != a1_3) = true then (waypointref32_Contents.j0 k true a0_0 a0_1 a0_2 a0_3 l0_4 l0_5 a1_0 a1_1 a1_2 a1_3 l1_4 l1_5) else (if (l0_4.length : Int) = (l1_4.length : Int) then (waypointref32_Contents.j0 k ((l0_5.length : Int) != (l1_5.length : Int)) a0_0 a0_1 a0_2 a0_3 l0_4 l0_5 a1_0 a1_1 a1_2 a1_3 l1_4 l1_5) else (waypointref32_Contents.j0 k true a0_0 a0_1 a0_2 a0_3 l0_4 l0_5 a1_0 a1_1 a1_2 a1_3 l1_4 l1_5))) = some r := h
 clear h
 have HC3 := Aside0.mk H
 clear H
 go_enter Try.func25, Try.ntmps25
 go_upto_region 1 with (first | ((with_reducible refine gate_dst (N := 2) rfl ?_); (try (refine gate_guard (by rfl) ?_; dsimp only)); refine box_event ?hg (N := 2) ?hd (cs := #[.int .i64 a0_0, .int .i64 a0_1, .int .i64 a0_2, .bool a0_3, .slice A0_4 l0_4.length c0_4, .slice A0_5 l0_5.length c0_5]) (t := 32) ?hr ?_; (case hd => rfl); (case hg => rfl); (case hr => first | (go_simp; done) | (go_simp; rfl)); intro gb101 hg w4 hbox hb; have BK101 := Aside0.mk (hbox); have GW101 := gs_ HB hg; have GE101 := gs_ HB hg; replace HB := bs_ HB hb; clear hb hbox hg) | ((with_reducible refine gate_dst (N := 3) rfl ?_); (try (refine gate_guard (by rfl) ?_; dsimp only)); refine box_event ?hg (N := 3) ?hd (cs := #[.int .i64 a1_0, .int .i64 a1_1, .int .i64 a1_2, .bool a1_3, .slice A1_4 l1_4.length c1_4, .slice A1_5 l1_5.length c1_5]) (t := 32) ?hr ?_; (case hd => rfl); (case hg => rfl); (case hr => first | (go_simp; done) | (go_simp; rfl)); intro gb102 hg w5 hbox hb; have BK102 := Aside0.mk (hbox); have GW102 := Aside0.mk ((by rw [hg]; exact (below_size (by repeat (first | (with_reducible first | exact HB.out | apply bU | apply bS GE101.out) | exact HB.out))) : w.heap.size ≤ gb102)); have GE102 := Aside0.mk ((by rw [hg]; exact (below_size (by repeat (first | (with_reducible first | exact HB.out | apply bU | apply bS GE101.out) | exact HB.out))) : w.heap.size ≤ gb102)); have NB101_102 := nl_ BK101 hg; have NB102_101 := ng_ BK101 hg; replace BK101 := bb_ BK101 hb; replace HB := Aside0.mk (below_step (by repeat (first | (with_reducible first | exact HB.out | apply bU | apply bS GE101.out) | exact HB.out)) hb); clear hb hbox hg))
 (try simp only [Act.put, List.setIfInBounds_toArray, List.set_cons_zero, List.set_cons_succ])
 go_cut [29] (fun v29 wc => ∃ (kq : Nat) (x29_2 : Bool), v29 = .bool x29_2 ∧ Aside0 (waypointref32_Contents.j0 kq x29_2 a0_0 a0_1 a0_2 a0_3 l0_4 l0_5 a1_0 a1_1 a1_2 a1_3 l1_4 l1_5 = some r) ∧ Aside0 (kq ≤ k) ∧ Aside0 (wc.heap[gb101]? = some (.cells #[.int .i64 a0_0, .int .i64 a0_1, .int .i64 a0_2, .bool a0_3, (.slice A0_4 l0_4.length c0_4), (.slice A0_5 l0_5.length c0_5)] 32 (0, 0))) ∧ Aside0 (wc.heap[gb102]? = some (.cells #[.int .i64 a1_0, .int .i64 a1_1, .int .i64 a1_2, .bool a1_3, (.slice A1_4 l1_4.length c1_4), (.slice A1_5 l1_5.length c1_5)] 32 (0, 0))) ∧ Aside0 (Below w.heap.size w wc))
 case first =>
  have H := HC3.out
  clear HC3
  by_cases c6 : (a0_3 != a1_3) = true
  ·rw [if_pos c6] at H
   have c6b0 : (a0_3 != a1_3) = true := c6
   (try (have c6b1 : decide (a0_3 = a1_3) = false := by simpa using c6))
   (try (have c6b2 : (a0_3 == a1_3) = false := by simpa using c6))
   (try (have c6b3 : ¬ (a0_3 = a1_3) := by simpa using c6))
   clear c6
   (first | rw [c6b0] | (simp only [i64_w, i32_w]; rw [c6b0]) | skip)
   have H' := Aside0.mk H
   clear H
   have hnb7 := NB101_102.out
   have hnc7 := NB102_101.out
   obtain ⟨hcz8_0, hcz8_1, hcz8_2, hcz8_3, hcz8_4, hcz8_5, hfz8_0, hfz8_1, hfz8_2, hfz8_3, hfz8_4, hfz8_5⟩ := c6_ BK101
   obtain ⟨hcz9_0, hcz9_1, hcz9_2, hcz9_3, hcz9_4, hcz9_5, hfz9_0, hfz9_1, hfz9_2, hfz9_3, hfz9_4, hfz9_5⟩ := c6_ BK102
   go_wp2
   repeat (go_quiet (fail); try go_wp2)
   go_meet
   case rel => exact ⟨_, (true), (by first | rfl | (simp; done) | (simp [*]; done)), H', ⟨by first | omega | exact Nat.le_refl _⟩, ⟨kb_ BK101⟩, ⟨kb_ BK102⟩, ⟨by repeat (first | (with_reducible first | exact HB.out | apply bU | apply bS GE101.out | apply bS GE102.out) | exact HB.out)⟩⟩
  ·rw [if_neg c6] at H
   have c6b0 : (a0_3 != a1_3) = false := by simpa using c6
   (try (have c6b1 : decide (a0_3 = a1_3) = true := by simpa using c6))
   (try (have c6b2 : (a0_3 == a1_3) = true := by simpa using c6))
   clear c6
   (first | rw [c6b0] | (simp only [i64_w, i32_w]; rw [c6b0]) | skip)
   by_cases c10 : (l0_4.length : Int) = (l1_4.length : Int)
   ·rw [if_pos c10] at H
    have c10b0 : ((l0_4.length : Int) == (l1_4.length : Int)) = true := beq_iff_eq.mpr c10
    have c10b1 : ((l0_4.length : Int) != (l1_4.length : Int)) = false := bne_eq_false_iff_eq.mpr c10
    have c10b2 : (l0_4.length == l1_4.length) = true := by first | simpa using c10 | (simp at c10 ⊢; omega)
    clear c10
    have H' := Aside0.mk H
    clear H
    have hnb11 := NB101_102.out
    have hnc11 := NB102_101.out
    obtain ⟨hcz12_0, hcz12_1, hcz12_2, hcz12_3, hcz12_4, hcz12_5, hfz12_0, hfz12_1, hfz12_2, hfz12_3, hfz12_4, hfz12_5⟩ := c6_ BK101
    obtain ⟨hcz13_0, hcz13_1, hcz13_2, hcz13_3, hcz13_4, hcz13_5, hfz13_0, hfz13_1, hfz13_2, hfz13_3, hfz13_4, hfz13_5⟩ := c6_ BK102
    go_wp2
    repeat (go_quiet (fail); try go_wp2)
    go_meet
    case rel => exact ⟨_, (((l0_5.length : Int) != (l1_5.length : Int))), (by first | rfl | (simp; done) | (simp [*]; done)), H', ⟨by first | omega | exact Nat.le_refl _⟩, ⟨kb_ BK101⟩, ⟨kb_ BK102⟩, ⟨by repeat (first | (with_reducible first | exact HB.out | apply bU | apply bS GE101.out | apply bS GE102.out) | exact HB.out)⟩⟩
   ·rw [if_neg c10] at H
    have c10b0 : ((l0_4.length : Int) == (l1_4.length : Int)) = false := beq_eq_false_iff_ne.mpr c10
    have c10b1 : ((l0_4.length : Int) != (l1_4.length : Int)) = true := bne_iff_ne.mpr c10
    have c10b2 : (l0_4.length == l1_4.length) = false := by first | simpa using c10 | (simp at c10 ⊢; omega)
    have H' := Aside0.mk H
    clear H
    have hnb14 := NB101_102.out
    have hnc14 := NB102_101.out
    obtain ⟨hcz15_0, hcz15_1, hcz15_2, hcz15_3, hcz15_4, hcz15_5, hfz15_0, hfz15_1, hfz15_2, hfz15_3, hfz15_4, hfz15_5⟩ := c6_ BK101
    obtain ⟨hcz16_0, hcz16_1, hcz16_2, hcz16_3, hcz16_4, hcz16_5, hfz16_0, hfz16_1, hfz16_2, hfz16_3, hfz16_4, hfz16_5⟩ := c6_ BK102
    go_wp2
    repeat (go_quiet (fail); try go_wp2)
    go_meet
    case rel => exact ⟨_, (true), (by first | rfl | (simp; done) | (simp [*]; done)), H', ⟨by first | omega | exact Nat.le_refl _⟩, ⟨kb_ BK101⟩, ⟨kb_ BK102⟩, ⟨by repeat (first | (with_reducible first | exact HB.out | apply bU | apply bS GE101.out | apply bS GE102.out) | exact HB.out)⟩⟩
 case rest =>
  clear HC3
  obtain ⟨kq, x29_2, rfl, HA, HJ2, BK101, BK102, HB⟩ := hcut
  cases kq with
  | zero => exact absurd HA.out (by simp [waypointref32_Contents.j0])
  | succ kj2 =>
   have H := HA.out
   clear HA
   simp only [waypointref32_Contents.j0] at H
   by_cases c17 : x29_2 = true
   ·subst c17
    have H1 : (some false) = some r := by rw [if_pos rfl] at H; exact H
    clear H
    have H := H1
    clear H1
    obtain rfl := Option.some.inj H
    go_wp2
    repeat (go_quiet (fail); try go_wp2)
    go_ret
    exact ⟨by first | rfl | (simp [errW_none, errW_some] <;> rfl) | (simp [*, errW_none, errW_some] <;> rfl), by repeat (first | (with_reducible first | exact HB.out | apply bU | apply bS GE101.out | apply bS GE102.out) | exact HB.out)⟩
   ·replace c17 := Bool.eq_false_iff.mpr c17
    subst c17
    have H1 : (waypointref32_Contents.l0 kj2 0 a0_0 a0_1 a0_2 a0_3 l0_4 l0_5 a1_0 a1_1 a1_2 a1_3 l1_4 l1_5) = some r := by rw [if_neg (show ¬ (false = true) by decide)] at H; exact H
    clear H
    have H := H1
    clear H1
    have H' := Aside0.mk H
    clear H
    go_wp2
    repeat (go_quiet (fail); try go_wp2)
    go_loopg [5] kj2 (fun kq v5 w' => ∃ (x5_2 : Int), v5 = .int .i64 x5_2 ∧ Aside0 (waypointref32_Contents.l0 kq x5_2 a0_0 a0_1 a0_2 a0_3 l0_4 l0_5 a1_0 a1_1 a1_2 a1_3 l1_4 l1_5 = some r) ∧ Aside0 (kq ≤ kj2) ∧ Aside0 (w'.heap[gb101]? = some (.cells #[.int .i64 a0_0, .int .i64 a0_1, .int .i64 a0_2, .bool a0_3, (.slice A0_4 l0_4.length c0_4), (.slice A0_5 l0_5.length c0_5)] 32 (0, 0))) ∧ Aside0 (w'.heap[gb102]? = some (.cells #[.int .i64 a1_0, .int .i64 a1_1, .int .i64 a1_2, .bool a1_3, (.slice A1_4 l1_4.length c1_4), (.slice A1_5 l1_5.length c1_5)] 32 (0, 0))) ∧ Aside0 (Below w.heap.size w w'))
    case atStart => exact ⟨(0), (by first | rfl | (simp; done) | (simp [*]; done)), H', ⟨Nat.le_refl _⟩, ⟨kb_ BK101⟩, ⟨kb_ BK102⟩, ⟨by repeat (first | (with_reducible first | exact HB.out | apply bU | apply bS GE101.out | apply bS GE102.out) | exact HB.out)⟩⟩
    case round =>
     clear H'
     (try clear c17)
     obtain ⟨x5_2, rfl, HA, HK2, BK101, BK102, HB⟩ := hrel
     cases gk with
     | zero => exact absurd HA.out (by simp [waypointref32_Contents.l0])
     | succ k2 =>
      have H := HA.out
      clear HA
      simp only [waypointref32_Contents.l0] at H
      by_cases c18 : x5_2 < (l0_4.length : Int)
      ·rw [if_pos c18] at H
       have c18b0 : decide (x5_2 < (l0_4.length : Int)) = true := decide_eq_true c18
       clear c18
       by_cases c19 : 0 ≤ x5_2
       ·rw [if_pos c19] at H
        have c19b0 : decide (0 ≤ x5_2) = true := decide_eq_true c19
        clear c19
        by_cases c20 : x5_2 < (l1_4.length : Int)
        ·rw [if_pos c20] at H
         have c20b0 : decide (x5_2 < (l1_4.length : Int)) = true := decide_eq_true c20
         clear c20
         by_cases c21 : (!(((rd_T72 l0_4 x5_2).f0) == ((rd_T72 l1_4 x5_2).f0)) || (!(((rd_T72 l0_4 x5_2).f1) == ((rd_T72 l1_4 x5_2).f1)) || (!(((rd_T72 l0_4 x5_2).f2) == ((rd_T72 l1_4 x5_2).f2))))) = true
         ·rw [if_pos c21] at H
          have c21b0 : (!(((rd_T72 l0_4 x5_2).f0) == ((rd_T72 l1_4 x5_2).f0)) || (!(((rd_T72 l0_4 x5_2).f1) == ((rd_T72 l1_4 x5_2).f1)) || (!(((rd_T72 l0_4 x5_2).f2) == ((rd_T72 l1_4 x5_2).f2))))) = true := c21
          clear c21
          obtain rfl := Option.some.inj H
          have hnb22 := NB101_102.out
          have hnc22 := NB102_101.out
          obtain ⟨hcz23_0, hcz23_1, hcz23_2, hcz23_3, hcz23_4, hcz23_5, hfz23_0, hfz23_1, hfz23_2, hfz23_3, hfz23_4, hfz23_5⟩ := c6_ BK101
          have p103 : 0 ≤ (x5_2 : Int) := of_decide_eq_true (by first | (with_reducible assumption) | assumption)
          have q103 : x5_2 < (l0_4.length : Int) := of_decide_eq_true (by first | (with_reducible assumption) | assumption)
          obtain ⟨ad103, e103, hx103_0, hx103_1, hx103_2⟩ := at_T72 HR0_4.out x5_2 p103 q103
          cases e103
          replace hx103_0 := (HB.out.cell (World.block_lt_of_cell? w _ hx103_0)).trans hx103_0
          replace hx103_1 := (HB.out.cell (World.block_lt_of_cell? w _ hx103_1)).trans hx103_1
          replace hx103_2 := (HB.out.cell (World.block_lt_of_cell? w _ hx103_2)).trans hx103_2
          replace p103 := eq_true p103
          replace q103 := eq_true q103
          obtain ⟨hcz24_0, hcz24_1, hcz24_2, hcz24_3, hcz24_4, hcz24_5, hfz24_0, hfz24_1, hfz24_2, hfz24_3, hfz24_4, hfz24_5⟩ := c6_ BK102
          have p104 : 0 ≤ (x5_2 : Int) := of_decide_eq_true (by first | (with_reducible assumption) | assumption)
          have q104 : x5_2 < (l1_4.length : Int) := of_decide_eq_true (by first | (with_reducible assumption) | assumption)
          obtain ⟨ad104, e104, hx104_0, hx104_1, hx104_2⟩ := at_T72 HR1_4.out x5_2 p104 q104
          cases e104
          replace hx104_0 := (HB.out.cell (World.block_lt_of_cell? w _ hx104_0)).trans hx104_0
          replace hx104_1 := (HB.out.cell (World.block_lt_of_cell? w _ hx104_1)).trans hx104_1
          replace hx104_2 := (HB.out.cell (World.block_lt_of_cell? w _ hx104_2)).trans hx104_2
          replace p104 := eq_true p104
          replace q104 := eq_true q104
          go_wp2
          repeat (go_quiet (fail); try go_wp2)
          go_ret
          exact ⟨by first | rfl | (simp [errW_none, errW_some] <;> rfl) | (simp [*, errW_none, errW_some] <;> rfl), by repeat (first | (with_reducible first | exact HB.out | apply bU | apply bS GE101.out | apply bS GE102.out) | exact HB.out)⟩
         ·rw [if_neg c21] at H
          have c21b0 : (!(((rd_T72 l0_4 x5_2).f0) == ((rd_T72 l1_4 x5_2).f0)) || (!(((rd_T72 l0_4 x5_2).f1) == ((rd_T72 l1_4 x5_2).f1)) || (!(((rd_T72 l0_4 x5_2).f2) == ((rd_T72 l1_4 x5_2).f2))))) = false := by simpa using c21
          clear c21
          have H' := Aside0.mk H
          clear H
          have hnb25 := NB101_102.out
          have hnc25 := NB102_101.out
          obtain ⟨hcz26_0, hcz26_1, hcz26_2, hcz26_3, hcz26_4, hcz26_5, hfz26_0, hfz26_1, hfz26_2, hfz26_3, hfz26_4, hfz26_5⟩ := c6_ BK101
          have p103 : 0 ≤ (x5_2 : Int) := of_decide_eq_true (by first | (with_reducible assumption) | assumption)
          have q103 : x5_2 < (l0_4.length : Int) := of_decide_eq_true (by first | (with_reducible assumption) | assumption)
          obtain ⟨ad103, e103, hx103_0, hx103_1, hx103_2⟩ := at_T72 HR0_4.out x5_2 p103 q103
          cases e103
          replace hx103_0 := (HB.out.cell (World.block_lt_of_cell? w _ hx103_0)).trans hx103_0
          replace hx103_1 := (HB.out.cell (World.block_lt_of_cell? w _ hx103_1)).trans hx103_1
          replace hx103_2 := (HB.out.cell (World.block_lt_of_cell? w _ hx103_2)).trans hx103_2
          replace p103 := eq_true p103
          replace q103 := eq_true q103
          obtain ⟨hcz27_0, hcz27_1, hcz27_2, hcz27_3, hcz27_4, hcz27_5, hfz27_0, hfz27_1, hfz27_2, hfz27_3, hfz27_4, hfz27_5⟩ := c6_ BK102
          have p104 : 0 ≤ (x5_2 : Int) := of_decide_eq_true (by first | (with_reducible assumption) | assumption)
          have q104 : x5_2 < (l1_4.length : Int) := of_decide_eq_true (by first | (with_reducible assumption) | assumption)
          obtain ⟨ad104, e104, hx104_0, hx104_1, hx104_2⟩ := at_T72 HR1_4.out x5_2 p104 q104
          cases e104
          replace hx104_0 := (HB.out.cell (World.block_lt_of_cell? w _ hx104_0)).trans hx104_0
          replace hx104_1 := (HB.out.cell (World.block_lt_of_cell? w _ hx104_1)).trans hx104_1
          replace hx104_2 := (HB.out.cell (World.block_lt_of_cell? w _ hx104_2)).trans hx104_2
          replace p104 := eq_true p104
          replace q104 := eq_true q104
          go_wp2
          repeat (go_quiet (fail); try go_wp2)
          go_roundg k2
          case measure => have := HJ2.out; have := HK2.out; omega
          case rel => exact ⟨(wrap64 (x5_2 + 1)), (by first | rfl | (simp; done) | (simp [*]; done)), H', ⟨by have := HJ2.out; have := HK2.out; omega⟩, ⟨kb_ BK101⟩, ⟨kb_ BK102⟩, ⟨by repeat (first | (with_reducible first | exact HB.out | apply bU | apply bS GE101.out | apply bS GE102.out) | exact HB.out)⟩⟩
        ·rw [if_neg c20] at H
         exact absurd H (by simp)
       ·rw [if_neg c19] at H
        exact absurd H (by simp)
      ·rw [if_neg c18] at H
       have c18b0 : decide (x5_2 < (l0_4.length : Int)) = false := decide_eq_false c18
       clear c18
       have H' := Aside0.mk H
       clear H
       have hnb28 := NB101_102.out
       have hnc28 := NB102_101.out
       obtain ⟨hcz29_0, hcz29_1, hcz29_2, hcz29_3, hcz29_4, hcz29_5, hfz29_0, hfz29_1, hfz29_2, hfz29_3, hfz29_4, hfz29_5⟩ := c6_ BK101
       go_wp2
       repeat (go_quiet (fail); try go_wp2)
       go_loopg [6] k2 (fun kq v6 w' => ∃ (x6_3 : Int), v6 = .int .i64 x6_3 ∧ Aside0 (waypointref32_Contents.l1 kq x6_3 a0_0 a0_1 a0_2 a0_3 l0_4 l0_5 a1_0 a1_1 a1_2 a1_3 l1_4 l1_5 = some r) ∧ Aside0 (kq ≤ k2) ∧ Aside0 (w'.heap[gb101]? = some (.cells #[.int .i64 a0_0, .int .i64 a0_1, .int .i64 a0_2, .bool a0_3, (.slice A0_4 l0_4.length c0_4), (.slice A0_5 l0_5.length c0_5)] 32 (0, 0))) ∧ Aside0 (w'.heap[gb102]? = some (.cells #[.int .i64 a1_0, .int .i64 a1_1, .int .i64 a1_2, .bool a1_3, (.slice A1_4 l1_4.length c1_4), (.slice A1_5 l1_5.length c1_5)] 32 (0, 0))) ∧ Aside0 (Below w.heap.size w w'))
       case atStart => exact ⟨(0), (by first | rfl | (simp; done) | (simp [*]; done)), H', ⟨Nat.le_refl _⟩, ⟨kb_ BK101⟩, ⟨kb_ BK102⟩, ⟨by repeat (first | (with_reducible first | exact HB.out | apply bU | apply bS GE101.out | apply bS GE102.out) | exact HB.out)⟩⟩
       case round =>
        clear H'
        (try clear c17); (try clear c18); (try clear c18b0); (try clear hcz29_0); (try clear hcz29_1); (try clear hcz29_2); (try clear hcz29_3); (try clear hcz29_4); (try clear hcz29_5); (try clear hfz29_0); (try clear hfz29_1); (try clear hfz29_2); (try clear hfz29_3); (try clear hfz29_4); (try clear hfz29_5)
        obtain ⟨x6_3, rfl, HA, HK3, BK101, BK102, HB⟩ := hrel
        cases gk with
        | zero => exact absurd HA.out (by simp [waypointref32_Contents.l1])
        | succ k3 =>
         have H := HA.out
         clear HA
         simp only [waypointref32_Contents.l1] at H
         by_cases c30 : x6_3 < (l0_5.length : Int)
         ·rw [if_pos c30] at H
          have c30b0 : decide (x6_3 < (l0_5.length : Int)) = true := decide_eq_true c30
          clear c30
          by_cases c31 : 0 ≤ x6_3
          ·rw [if_pos c31] at H
           have c31b0 : decide (0 ≤ x6_3) = true := decide_eq_true c31
           clear c31
           by_cases c32 : x6_3 < (l1_5.length : Int)
           ·rw [if_pos c32] at H
            have c32b0 : decide (x6_3 < (l1_5.length : Int)) = true := decide_eq_true c32
            clear c32
            by_cases c33 : (!(((rd_T76 l0_5 x6_3).f0) == ((rd_T76 l1_5 x6_3).f0)) || (!(((rd_T76 l0_5 x6_3).f1) == ((rd_T76 l1_5 x6_3).f1)))) = true
            ·rw [if_pos c33] at H
             have c33b0 : (!(((rd_T76 l0_5 x6_3).f0) == ((rd_T76 l1_5 x6_3).f0)) || (!(((rd_T76 l0_5 x6_3).f1) == ((rd_T76 l1_5 x6_3).f1)))) = true := c33
             clear c33
             obtain rfl := Option.some.inj H
             have hnb34 := NB101_102.out
             have hnc34 := NB102_101.out
             obtain ⟨hcz35_0, hcz35_1, hcz35_2, hcz35_3, hcz35_4, hcz35_5, hfz35_0, hfz35_1, hfz35_2, hfz35_3, hfz35_4, hfz35_5⟩ := c6_ BK101
             have p105 : 0 ≤ (x6_3 : Int) := of_decide_eq_true (by first | (with_reducible assumption) | assumption)
             have q105 : x6_3 < (l0_5.length : Int) := of_decide_eq_true (by first | (with_reducible assumption) | assumption)
             obtain ⟨ad105, e105, hx105_0, hx105_1⟩ := at_T76 HR0_5.out x6_3 p105 q105
             cases e105
             replace hx105_0 := (HB.out.cell (World.block_lt_of_cell? w _ hx105_0)).trans hx105_0
             replace hx105_1 := (HB.out.cell (World.block_lt_of_cell? w _ hx105_1)).trans hx105_1
             replace p105 := eq_true p105
             replace q105 := eq_true q105
             obtain ⟨hcz36_0, hcz36_1, hcz36_2, hcz36_3, hcz36_4, hcz36_5, hfz36_0, hfz36_1, hfz36_2, hfz36_3, hfz36_4, hfz36_5⟩ := c6_ BK102
             have p106 : 0 ≤ (x6_3 : Int) := of_decide_eq_true (by first | (with_reducible assumption) | assumption)
             have q106 : x6_3 < (l1_5.length : Int) := of_decide_eq_true (by first | (with_reducible assumption) | assumption)
             obtain ⟨ad106, e106, hx106_0, hx106_1⟩ := at_T76 HR1_5.out x6_3 p106 q106
             cases e106
             replace hx106_0 := (HB.out.cell (World.block_lt_of_cell? w _ hx106_0)).trans hx106_0
             replace hx106_1 := (HB.out.cell (World.block_lt_of_cell? w _ hx106_1)).trans hx106_1
             replace p106 := eq_true p106
             replace q106 := eq_true q106
             go_wp2
             repeat (go_quiet (fail); try go_wp2)
             go_ret
             exact ⟨by first | rfl | (simp [errW_none, errW_some] <;> rfl) | (simp [*, errW_none, errW_some] <;> rfl), by repeat (first | (with_reducible first | exact HB.out | apply bU | apply bS GE101.out | apply bS GE102.out) | exact HB.out)⟩
            ·rw [if_neg c33] at H
             have c33b0 : (!(((rd_T76 l0_5 x6_3).f0) == ((rd_T76 l1_5 x6_3).f0)) || (!(((rd_T76 l0_5 x6_3).f1) == ((rd_T76 l1_5 x6_3).f1)))) = false := by simpa using c33
             clear c33
             have H' := Aside0.mk H
             clear H
             have hnb37 := NB101_102.out
             have hnc37 := NB102_101.out
             obtain ⟨hcz38_0, hcz38_1, hcz38_2, hcz38_3, hcz38_4, hcz38_5, hfz38_0, hfz38_1, hfz38_2, hfz38_3, hfz38_4, hfz38_5⟩ := c6_ BK101
             have p105 : 0 ≤ (x6_3 : Int) := of_decide_eq_true (by first | (with_reducible assumption) | assumption)
             have q105 : x6_3 < (l0_5.length : Int) := of_decide_eq_true (by first | (with_reducible assumption) | assumption)
             obtain ⟨ad105, e105, hx105_0, hx105_1⟩ := at_T76 HR0_5.out x6_3 p105 q105
             cases e105
             replace hx105_0 := (HB.out.cell (World.block_lt_of_cell? w _ hx105_0)).trans hx105_0
             replace hx105_1 := (HB.out.cell (World.block_lt_of_cell? w _ hx105_1)).trans hx105_1
             replace p105 := eq_true p105
             replace q105 := eq_true q105
             obtain ⟨hcz39_0, hcz39_1, hcz39_2, hcz39_3, hcz39_4, hcz39_5, hfz39_0, hfz39_1, hfz39_2, hfz39_3, hfz39_4, hfz39_5⟩ := c6_ BK102
             have p106 : 0 ≤ (x6_3 : Int) := of_decide_eq_true (by first | (with_reducible assumption) | assumption)
             have q106 : x6_3 < (l1_5.length : Int) := of_decide_eq_true (by first | (with_reducible assumption) | assumption)
             obtain ⟨ad106, e106, hx106_0, hx106_1⟩ := at_T76 HR1_5.out x6_3 p106 q106
             cases e106
             replace hx106_0 := (HB.out.cell (World.block_lt_of_cell? w _ hx106_0)).trans hx106_0
             replace hx106_1 := (HB.out.cell (World.block_lt_of_cell? w _ hx106_1)).trans hx106_1
             replace p106 := eq_true p106
             replace q106 := eq_true q106
             go_wp2
             repeat (go_quiet (fail); try go_wp2)
             go_roundg k3
             case measure => have := HJ2.out; have := HK2.out; have := HK3.out; omega
             case rel => exact ⟨(wrap64 (x6_3 + 1)), (by first | rfl | (simp; done) | (simp [*]; done)), H', ⟨by have := HJ2.out; have := HK2.out; have := HK3.out; omega⟩, ⟨kb_ BK101⟩, ⟨kb_ BK102⟩, ⟨by repeat (first | (with_reducible first | exact HB.out | apply bU | apply bS GE101.out | apply bS GE102.out) | exact HB.out)⟩⟩
           ·rw [if_neg c32] at H
            exact absurd H (by simp)
          ·rw [if_neg c31] at H
           exact absurd H (by simp)
         ·rw [if_neg c30] at H
          have c30b0 : decide (x6_3 < (l0_5.length : Int)) = false := decide_eq_false c30
          clear c30
          obtain rfl := Option.some.inj H
          have hnb40 := NB101_102.out
          have hnc40 := NB102_101.out
          obtain ⟨hcz41_0, hcz41_1, hcz41_2, hcz41_3, hcz41_4, hcz41_5, hfz41_0, hfz41_1, hfz41_2, hfz41_3, hfz41_4, hfz41_5⟩ := c6_ BK101
          go_wp2
          repeat (go_quiet (fail); try go_wp2)
          go_ret
          exact ⟨by first | rfl | (simp [errW_none, errW_some] <;> rfl) | (simp [*, errW_none, errW_some] <;> rfl), by repeat (first | (with_reducible first | exact HB.out | apply bU | apply bS GE101.out | apply bS GE102.out) | exact HB.out)⟩

/-! ### waypointref32_Same: function 30 -/
def waypointref32_Same.f (k : Nat) (a0_0 : Int) (a0_1 : Int) (a0_2 : Int) (a0_3 : Bool) (l0_4 : List (S72)) (l0_5 : List (S76)) (a1_0 : Int) (a1_1 : Int) (a1_2 : Int) (a1_3 : Bool) (l1_4 : List (S72)) (l1_5 : List (S76)) : Option (Bool) := if a0_0 = a1_0 then (if a0_1 = a1_1 then (if ((a0_2 == 3600) == (a1_2 == 3600)) = true then ((waypointref32_Contents.f k a0_0 a0_1 a0_2 a0_3 l0_4 l0_5 a1_0 a1_1 a1_2 a1_3 l1_4 l1_5).bind fun t109 => (some t109)) else (some false)) else (some false)) else (some false)
theorem waypointref32_Same.mono : ∀ a0 a1 a2 a3 a4 a5 a6 a7 a8 a9 a10 a11 k, LeO (waypointref32_Same.f k a0 a1 a2 a3 a4 a5 a6 a7 a8 a9 a10 a11) (waypointref32_Same.f (k + 1) a0 a1 a2 a3 a4 a5 a6 a7 a8 a9 a10 a11) := by
 intro a0 a1 a2 a3 a4 a5 a6 a7 a8 a9 a10 a11 k
 unfold waypointref32_Same.f
 repeat' first
   | (with_reducible exact waypointref32_Contents.mono _ _ _ _ _ _ _ _ _ _ _ _ _)
   | (with_reducible exact LeO.refl _)
   | (with_reducible exact LeO.none _)
   | (with_reducible refine LeO.ite ?_ ?_)
   | (with_reducible refine LeO.bind ?_ (fun _ => ?_))
   | exact waypointref32_Contents.mono _ _ _ _ _ _ _ _ _ _ _ _ _
   | exact LeO.none _
   | refine LeO.ite ?_ ?_
   | refine LeO.bind ?_ (fun _ => ?_)
set_option maxHeartbeats 8000000 in
set_option maxRecDepth 100000 in
theorem waypointref32_Same.calls (k : Nat) (a0_0 : Int) (a0_1 : Int) (a0_2 : Int) (a0_3 : Bool) (A0_4 : Option Addr) (c0_4 : Nat) (l0_4 : List (S72)) (A0_5 : Option Addr) (c0_5 : Nat) (l0_5 : List (S76)) (a1_0 : Int) (a1_1 : Int) (a1_2 : Int) (a1_3 : Bool) (A1_4 : Option Addr) (c1_4 : Nat) (l1_4 : List (S72)) (A1_5 : Option Addr) (c1_5 : Nat) (l1_5 : List (S76)) (r : Bool) (w : World) (hr0_4 : Kd.C k72 w A0_4 l0_4.length l0_4) (hc0_4 : l0_4.length ≤ c0_4) (hr0_5 : Kd.C k76 w A0_5 l0_5.length l0_5) (hc0_5 : l0_5.length ≤ c0_5) (hr1_4 : Kd.C k72 w A1_4 l1_4.length l1_4) (hc1_4 : l1_4.length ≤ c1_4) (hr1_5 : Kd.C k76 w A1_5 l1_5.length l1_5) (hc1_5 : l1_5.length ≤ c1_5) (h : waypointref32_Same.f k a0_0 a0_1 a0_2 a0_3 l0_4 l0_5 a1_0 a1_1 a1_2 a1_3 l1_4 l1_5 = some r) :
  Calls Try.prog 30 #[.agg #[.int .i64 a0_0, .int .i64 a0_1, .int .i64 a0_2, .bool a0_3, .slice A0_4 l0_4.length c0_4, .slice A0_5 l0_5.length c0_5], .agg #[.int .i64 a1_0, .int .i64 a1_1, .int .i64 a1_2, .bool a1_3, .slice A1_4 l1_4.length c1_4, .slice A1_5 l1_5.length c1_5]] w fun e w' => e = .returned (.bool r) ∧ Below w.heap.size w w' := by
 have hu32 := Try.underlying32
 have HR0_4 := Aside0.mk hr0_4
 have HC0_4 := Aside0.mk hc0_4
 clear hr0_4 hc0_4
 have HR0_5 := Aside0.mk hr0_5
 have HC0_5 := Aside0.mk hc0_5
 clear hr0_5 hc0_5
 have HR1_4 := Aside0.mk hr1_4
 have HC1_4 := Aside0.mk hc1_4
 clear hr1_4 hc1_4
 have HR1_5 := Aside0.mk hr1_5
 have HC1_5 := Aside0.mk hc1_5
 clear hr1_5 hc1_5
 have HB := Aside0.mk (Below.refl w.heap.size w)
 have H : (if a0_0 = a1_0 then (if a0_1 = a1_1 then (if ((a0_2 == 3600) == (a1_2 == 3600)) = true then ((waypointref32_Contents.f k a0_0 a0_1 a0_2 a0_3 l0_4 l0_5 a1_0 a1_1 a1_2 a1_3 l1_4 l1_5).bind fun t109 => (some t109)) else (some false)) else (some false)) else (some false)) = some r := h
 clear h
 by_cases c3 : a0_0 = a1_0
 ·rw [if_pos c3] at H
  have c3b0 : (a0_0 == a1_0) = true := beq_iff_eq.mpr c3
  have c3b1 : (a0_0 != a1_0) = false := bne_eq_false_iff_eq.mpr c3
  clear c3
  by_cases c4 : a0_1 = a1_1
  ·rw [if_pos c4] at H
   have c4b0 : (a0_1 == a1_1) = true := beq_iff_eq.mpr c4
   have c4b1 : (a0_1 != a1_1) = false := bne_eq_false_iff_eq.mpr c4
   clear c4
   by_cases c5 : ((a0_2 == 3600) == (a1_2 == 3600)) = true
   ·rw [if_pos c5] at H
    have c5b0 : ((a0_2 == 3600) == (a1_2 == 3600)) = true := c5
    (try (have c5b1 : decide ((a0_2 == 3600) = (a1_2 == 3600)) = true := by simpa using c5))
    (try (have c5b2 : ((a0_2 == 3600) == (a1_2 == 3600)) = true := by simpa using c5))
    clear c5
    replace H := Option.bind_eq_some_iff.mp H
    obtain ⟨t109, A60, H⟩ := H
    replace H : (some t109) = some r := H
    have A6 := Aside0.mk A60
    clear A60
    obtain rfl := Option.some.inj H
    go_enter Try.func30, Try.ntmps30
    go_wp2_with (first | ((with_reducible refine gate_dst (N := 2) rfl ?_); refine bx_ 2 #[.int .i64 a0_0, .int .i64 a0_1, .int .i64 a0_2, .bool a0_3, .slice A0_4 l0_4.length c0_4, .slice A0_5 l0_5.length c0_5] 32 rfl rfl ?hr ?_; (case hr => go_simp; try rfl); intro gb107 hg w7 hbox hb; have BK107 := Aside0.mk (hbox); have GW107 := gs_ HB hg; have GE107 := gs_ HB hg; replace HB := bs_ HB hb; clear hb hbox hg) | ((with_reducible refine gate_dst (N := 3) rfl ?_); refine bx_ 3 #[.int .i64 a1_0, .int .i64 a1_1, .int .i64 a1_2, .bool a1_3, .slice A1_4 l1_4.length c1_4, .slice A1_5 l1_5.length c1_5] 32 rfl rfl ?hr ?_; (case hr => go_simp; try rfl); intro gb108 hg w8 hbox hb; have BK108 := Aside0.mk (hbox); have GW108 := Aside0.mk ((by rw [hg]; exact (below_size (by repeat (first | (with_reducible first | exact HB.out | apply bU | apply bS GE107.out) | exact HB.out))) : w.heap.size ≤ gb108)); have GE108 := Aside0.mk ((by rw [hg]; exact (below_size (by repeat (first | (with_reducible first | exact HB.out | apply bU | apply bS GE107.out) | exact HB.out))) : w.heap.size ≤ gb108)); have NB107_108 := nl_ BK107 hg; have NB108_107 := ng_ BK107 hg; replace BK107 := bb_ BK107 hb; replace HB := Aside0.mk (below_step (by repeat (first | (with_reducible first | exact HB.out | apply bU | apply bS GE107.out) | exact HB.out)) hb); clear hb hbox hg; have hnb9 := NB107_108.out; have hnc9 := NB108_107.out; obtain ⟨hcz10_0, hcz10_1, hcz10_2, hcz10_3, hcz10_4, hcz10_5, hfz10_0, hfz10_1, hfz10_2, hfz10_3, hfz10_4, hfz10_5⟩ := c6_ BK107; obtain ⟨hcz11_0, hcz11_1, hcz11_2, hcz11_3, hcz11_4, hcz11_5, hfz11_0, hfz11_1, hfz11_2, hfz11_3, hfz11_4, hfz11_5⟩ := c6_ BK108) | (go_at_call 25; (with_reducible refine (waypointref32_Contents.calls k a0_0 a0_1 a0_2 a0_3 _ _ l0_4 _ _ l0_5 a1_0 a1_1 a1_2 a1_3 _ _ l1_4 _ _ l1_5 t109 _ ?side1 ?side2 ?side3 ?side4 ?side5 ?side6 ?side7 ?side8 A6.out).mono ?_); (case side1 => exact cs_ HR0_4 HB); (case side2 => exact HC0_4.out); (case side3 => exact cs_ HR0_5 HB); (case side4 => exact HC0_5.out); (case side5 => exact cs_ HR1_4 HB); (case side6 => exact HC1_4.out); (case side7 => exact cs_ HR1_5 HB); (case side8 => exact HC1_5.out); rintro e w12 ⟨rfl, hb⟩; replace BK107 := bb_ BK107 hb; replace BK108 := bb_ BK108 hb; replace HB := Aside0.mk (below_step (by repeat (first | (with_reducible first | exact HB.out | apply bU | apply bS GE107.out | apply bS GE108.out) | exact HB.out)) hb); (try clear hb); (try clear hb2); (try clear hk); (try clear hi)))
    go_ret
    exact ⟨by first | rfl | (simp [errW_none, errW_some] <;> rfl) | (simp [*, errW_none, errW_some] <;> rfl), by repeat (first | (with_reducible first | exact HB.out | apply bU | apply bS GE107.out | apply bS GE108.out) | exact HB.out)⟩
   ·rw [if_neg c5] at H
    have c5b0 : ((a0_2 == 3600) == (a1_2 == 3600)) = false := by simpa using c5
    (try (have c5b1 : decide ((a0_2 == 3600) = (a1_2 == 3600)) = false := by simpa using c5))
    (try (have c5b2 : ((a0_2 == 3600) == (a1_2 == 3600)) = false := by simpa using c5))
    (try (have c5b3 : ¬ ((a0_2 == 3600) = (a1_2 == 3600)) := by simpa using c5))
    clear c5
    obtain rfl := Option.some.inj H
    go_enter Try.func30, Try.ntmps30
    go_wp2_with (first | ((with_reducible refine gate_dst (N := 2) rfl ?_); refine bx_ 2 #[.int .i64 a0_0, .int .i64 a0_1, .int .i64 a0_2, .bool a0_3, .slice A0_4 l0_4.length c0_4, .slice A0_5 l0_5.length c0_5] 32 rfl rfl ?hr ?_; (case hr => go_simp; try rfl); intro gb107 hg w13 hbox hb; have BK107 := Aside0.mk (hbox); have GW107 := gs_ HB hg; have GE107 := gs_ HB hg; replace HB := bs_ HB hb; clear hb hbox hg) | ((with_reducible refine gate_dst (N := 3) rfl ?_); refine bx_ 3 #[.int .i64 a1_0, .int .i64 a1_1, .int .i64 a1_2, .bool a1_3, .slice A1_4 l1_4.length c1_4, .slice A1_5 l1_5.length c1_5] 32 rfl rfl ?hr ?_; (case hr => go_simp; try rfl); intro gb108 hg w14 hbox hb; have BK108 := Aside0.mk (hbox); have GW108 := Aside0.mk ((by rw [hg]; exact (below_size (by repeat (first | (with_reducible first | exact HB.out | apply bU | apply bS GE107.out) | exact HB.out))) : w.heap.size ≤ gb108)); have GE108 := Aside0.mk ((by rw [hg]; exact (below_size (by repeat (first | (with_reducible first | exact HB.out | apply bU | apply bS GE107.out) | exact HB.out))) : w.heap.size ≤ gb108)); have NB107_108 := nl_ BK107 hg; have NB108_107 := ng_ BK107 hg; replace BK107 := bb_ BK107 hb; replace HB := Aside0.mk (below_step (by repeat (first | (with_reducible first | exact HB.out | apply bU | apply bS GE107.out) | exact HB.out)) hb); clear hb hbox hg; have hnb15 := NB107_108.out; have hnc15 := NB108_107.out; obtain ⟨hcz16_0, hcz16_1, hcz16_2, hcz16_3, hcz16_4, hcz16_5, hfz16_0, hfz16_1, hfz16_2, hfz16_3, hfz16_4, hfz16_5⟩ := c6_ BK107; obtain ⟨hcz17_0, hcz17_1, hcz17_2, hcz17_3, hcz17_4, hcz17_5, hfz17_0, hfz17_1, hfz17_2, hfz17_3, hfz17_4, hfz17_5⟩ := c6_ BK108))
    go_ret
    exact ⟨by first | rfl | (simp [errW_none, errW_some] <;> rfl) | (simp [*, errW_none, errW_some] <;> rfl), by repeat (first | (with_reducible first | exact HB.out | apply bU | apply bS GE107.out | apply bS GE108.out) | exact HB.out)⟩
  ·rw [if_neg c4] at H
   have c4b0 : (a0_1 == a1_1) = false := beq_eq_false_iff_ne.mpr c4
   have c4b1 : (a0_1 != a1_1) = true := bne_iff_ne.mpr c4
   obtain rfl := Option.some.inj H
   go_enter Try.func30, Try.ntmps30
   go_wp2_with (first | ((with_reducible refine gate_dst (N := 2) rfl ?_); refine bx_ 2 #[.int .i64 a0_0, .int .i64 a0_1, .int .i64 a0_2, .bool a0_3, .slice A0_4 l0_4.length c0_4, .slice A0_5 l0_5.length c0_5] 32 rfl rfl ?hr ?_; (case hr => go_simp; try rfl); intro gb107 hg w18 hbox hb; have BK107 := Aside0.mk (hbox); have GW107 := gs_ HB hg; have GE107 := gs_ HB hg; replace HB := bs_ HB hb; clear hb hbox hg) | ((with_reducible refine gate_dst (N := 3) rfl ?_); refine bx_ 3 #[.int .i64 a1_0, .int .i64 a1_1, .int .i64 a1_2, .bool a1_3, .slice A1_4 l1_4.length c1_4, .slice A1_5 l1_5.length c1_5] 32 rfl rfl ?hr ?_; (case hr => go_simp; try rfl); intro gb108 hg w19 hbox hb; have BK108 := Aside0.mk (hbox); have GW108 := Aside0.mk ((by rw [hg]; exact (below_size (by repeat (first | (with_reducible first | exact HB.out | apply bU | apply bS GE107.out) | exact HB.out))) : w.heap.size ≤ gb108)); have GE108 := Aside0.mk ((by rw [hg]; exact (below_size (by repeat (first | (with_reducible first | exact HB.out | apply bU | apply bS GE107.out) | exact HB.out))) : w.heap.size ≤ gb108)); have NB107_108 := nl_ BK107 hg; have NB108_107 := ng_ BK107 hg; replace BK107 := bb_ BK107 hb; replace HB := Aside0.mk (below_step (by repeat (first | (with_reducible first | exact HB.out | apply bU | apply bS GE107.out) | exact HB.out)) hb); clear hb hbox hg; have hnb20 := NB107_108.out; have hnc20 := NB108_107.out; obtain ⟨hcz21_0, hcz21_1, hcz21_2, hcz21_3, hcz21_4, hcz21_5, hfz21_0, hfz21_1, hfz21_2, hfz21_3, hfz21_4, hfz21_5⟩ := c6_ BK107; obtain ⟨hcz22_0, hcz22_1, hcz22_2, hcz22_3, hcz22_4, hcz22_5, hfz22_0, hfz22_1, hfz22_2, hfz22_3, hfz22_4, hfz22_5⟩ := c6_ BK108))
   go_ret
   exact ⟨by first | rfl | (simp [errW_none, errW_some] <;> rfl) | (simp [*, errW_none, errW_some] <;> rfl), by repeat (first | (with_reducible first | exact HB.out | apply bU | apply bS GE107.out | apply bS GE108.out) | exact HB.out)⟩
 ·rw [if_neg c3] at H
  have c3b0 : (a0_0 == a1_0) = false := beq_eq_false_iff_ne.mpr c3
  have c3b1 : (a0_0 != a1_0) = true := bne_iff_ne.mpr c3
  obtain rfl := Option.some.inj H
  go_enter Try.func30, Try.ntmps30
  go_wp2_with (first | ((with_reducible refine gate_dst (N := 2) rfl ?_); refine bx_ 2 #[.int .i64 a0_0, .int .i64 a0_1, .int .i64 a0_2, .bool a0_3, .slice A0_4 l0_4.length c0_4, .slice A0_5 l0_5.length c0_5] 32 rfl rfl ?hr ?_; (case hr => go_simp; try rfl); intro gb107 hg w23 hbox hb; have BK107 := Aside0.mk (hbox); have GW107 := gs_ HB hg; have GE107 := gs_ HB hg; replace HB := bs_ HB hb; clear hb hbox hg) | ((with_reducible refine gate_dst (N := 3) rfl ?_); refine bx_ 3 #[.int .i64 a1_0, .int .i64 a1_1, .int .i64 a1_2, .bool a1_3, .slice A1_4 l1_4.length c1_4, .slice A1_5 l1_5.length c1_5] 32 rfl rfl ?hr ?_; (case hr => go_simp; try rfl); intro gb108 hg w24 hbox hb; have BK108 := Aside0.mk (hbox); have GW108 := Aside0.mk ((by rw [hg]; exact (below_size (by repeat (first | (with_reducible first | exact HB.out | apply bU | apply bS GE107.out) | exact HB.out))) : w.heap.size ≤ gb108)); have GE108 := Aside0.mk ((by rw [hg]; exact (below_size (by repeat (first | (with_reducible first | exact HB.out | apply bU | apply bS GE107.out) | exact HB.out))) : w.heap.size ≤ gb108)); have NB107_108 := nl_ BK107 hg; have NB108_107 := ng_ BK107 hg; replace BK107 := bb_ BK107 hb; replace HB := Aside0.mk (below_step (by repeat (first | (with_reducible first | exact HB.out | apply bU | apply bS GE107.out) | exact HB.out)) hb); clear hb hbox hg; have hnb25 := NB107_108.out; have hnc25 := NB108_107.out; obtain ⟨hcz26_0, hcz26_1, hcz26_2, hcz26_3, hcz26_4, hcz26_5, hfz26_0, hfz26_1, hfz26_2, hfz26_3, hfz26_4, hfz26_5⟩ := c6_ BK107; obtain ⟨hcz27_0, hcz27_1, hcz27_2, hcz27_3, hcz27_4, hcz27_5, hfz27_0, hfz27_1, hfz27_2, hfz27_3, hfz27_4, hfz27_5⟩ := c6_ BK108))
  go_ret
  exact ⟨by first | rfl | (simp [errW_none, errW_some] <;> rfl) | (simp [*, errW_none, errW_some] <;> rfl), by repeat (first | (with_reducible first | exact HB.out | apply bU | apply bS GE107.out | apply bS GE108.out) | exact HB.out)⟩

/-! ### waypointref32_Equal: function 13 -/
def waypointref32_Equal.f (k : Nat) (a0_0 : Int) (a0_1 : Int) (a0_2 : Int) (a0_3 : Bool) (l0_4 : List (S72)) (l0_5 : List (S76)) (a1_0 : Int) (a1_1 : Int) (a1_2 : Int) (a1_3 : Bool) (l1_4 : List (S72)) (l1_5 : List (S76)) : Option (Bool) := (waypointref32_Same.f k a0_0 a0_1 a0_2 a0_3 l0_4 l0_5 a1_0 a1_1 a1_2 a1_3 l1_4 l1_5).bind fun t112 => (if t112 = true then (some (a0_2 == a1_2)) else (some false))
theorem waypointref32_Equal.mono : ∀ a0 a1 a2 a3 a4 a5 a6 a7 a8 a9 a10 a11 k, LeO (waypointref32_Equal.f k a0 a1 a2 a3 a4 a5 a6 a7 a8 a9 a10 a11) (waypointref32_Equal.f (k + 1) a0 a1 a2 a3 a4 a5 a6 a7 a8 a9 a10 a11) := by
 intro a0 a1 a2 a3 a4 a5 a6 a7 a8 a9 a10 a11 k
 unfold waypointref32_Equal.f
 repeat' first
   | (with_reducible exact waypointref32_Same.mono _ _ _ _ _ _ _ _ _ _ _ _ _)
   | (with_reducible exact LeO.refl _)
   | (with_reducible exact LeO.none _)
   | (with_reducible refine LeO.ite ?_ ?_)
   | (with_reducible refine LeO.bind ?_ (fun _ => ?_))
   | exact waypointref32_Same.mono _ _ _ _ _ _ _ _ _ _ _ _ _
   | exact LeO.none _
   | refine LeO.ite ?_ ?_
   | refine LeO.bind ?_ (fun _ => ?_)
set_option maxHeartbeats 8000000 in
set_option maxRecDepth 100000 in
theorem waypointref32_Equal.calls (k : Nat) (a0_0 : Int) (a0_1 : Int) (a0_2 : Int) (a0_3 : Bool) (A0_4 : Option Addr) (c0_4 : Nat) (l0_4 : List (S72)) (A0_5 : Option Addr) (c0_5 : Nat) (l0_5 : List (S76)) (a1_0 : Int) (a1_1 : Int) (a1_2 : Int) (a1_3 : Bool) (A1_4 : Option Addr) (c1_4 : Nat) (l1_4 : List (S72)) (A1_5 : Option Addr) (c1_5 : Nat) (l1_5 : List (S76)) (r : Bool) (w : World) (hr0_4 : Kd.C k72 w A0_4 l0_4.length l0_4) (hc0_4 : l0_4.length ≤ c0_4) (hr0_5 : Kd.C k76 w A0_5 l0_5.length l0_5) (hc0_5 : l0_5.length ≤ c0_5) (hr1_4 : Kd.C k72 w A1_4 l1_4.length l1_4) (hc1_4 : l1_4.length ≤ c1_4) (hr1_5 : Kd.C k76 w A1_5 l1_5.length l1_5) (hc1_5 : l1_5.length ≤ c1_5) (h : waypointref32_Equal.f k a0_0 a0_1 a0_2 a0_3 l0_4 l0_5 a1_0 a1_1 a1_2 a1_3 l1_4 l1_5 = some r) :
  Calls Try.prog 13 #[.agg #[.int .i64 a0_0, .int .i64 a0_1, .int .i64 a0_2, .bool a0_3, .slice A0_4 l0_4.length c0_4, .slice A0_5 l0_5.length c0_5], .agg #[.int .i64 a1_0, .int .i64 a1_1, .int .i64 a1_2, .bool a1_3, .slice A1_4 l1_4.length c1_4, .slice A1_5 l1_5.length c1_5]] w fun e w' => e = .returned (.bool r) ∧ Below w.heap.size w w' := by
 have hu32 := Try.underlying32
 have HR0_4 := Aside0.mk hr0_4
 have HC0_4 := Aside0.mk hc0_4
 clear hr0_4 hc0_4
 have HR0_5 := Aside0.mk hr0_5
 have HC0_5 := Aside0.mk hc0_5
 clear hr0_5 hc0_5
 have HR1_4 := Aside0.mk hr1_4
 have HC1_4 := Aside0.mk hc1_4
 clear hr1_4 hc1_4
 have HR1_5 := Aside0.mk hr1_5
 have HC1_5 := Aside0.mk hc1_5
 clear hr1_5 hc1_5
 have HB := Aside0.mk (Below.refl w.heap.size w)
 have H : ((waypointref32_Same.f k a0_0 a0_1 a0_2 a0_3 l0_4 l0_5 a1_0 a1_1 a1_2 a1_3 l1_4 l1_5).bind fun t112 => (if t112 = true then (some (a0_2 == a1_2)) else (some false))) = some r := h
 clear h
 replace H := Option.bind_eq_some_iff.mp H
 obtain ⟨t112, A30, H⟩ := H
 replace H : (if t112 = true then (some (a0_2 == a1_2)) else (some false)) = some r := H
 have A3 := Aside0.mk A30
 clear A30
 by_cases c4 : t112 = true
 ·subst c4
  have H1 : (some (a0_2 == a1_2)) = some r := by rw [if_pos rfl] at H; exact H
  clear H
  have H := H1
  clear H1
  obtain rfl := Option.some.inj H
  go_enter Try.func13, Try.ntmps13
  go_wp2_with (first | ((with_reducible refine gate_dst (N := 2) rfl ?_); refine bx_ 2 #[.int .i64 a0_0, .int .i64 a0_1, .int .i64 a0_2, .bool a0_3, .slice A0_4 l0_4.length c0_4, .slice A0_5 l0_5.length c0_5] 32 rfl rfl ?hr ?_; (case hr => go_simp; try rfl); intro gb110 hg w5 hbox hb; have BK110 := Aside0.mk (hbox); have GW110 := gs_ HB hg; have GE110 := gs_ HB hg; replace HB := bs_ HB hb; clear hb hbox hg) | ((with_reducible refine gate_dst (N := 3) rfl ?_); refine bx_ 3 #[.int .i64 a1_0, .int .i64 a1_1, .int .i64 a1_2, .bool a1_3, .slice A1_4 l1_4.length c1_4, .slice A1_5 l1_5.length c1_5] 32 rfl rfl ?hr ?_; (case hr => go_simp; try rfl); intro gb111 hg w6 hbox hb; have BK111 := Aside0.mk (hbox); have GW111 := Aside0.mk ((by rw [hg]; exact (below_size (by repeat (first | (with_reducible first | exact HB.out | apply bU | apply bS GE110.out) | exact HB.out))) : w.heap.size ≤ gb111)); have GE111 := Aside0.mk ((by rw [hg]; exact (below_size (by repeat (first | (with_reducible first | exact HB.out | apply bU | apply bS GE110.out) | exact HB.out))) : w.heap.size ≤ gb111)); have NB110_111 := nl_ BK110 hg; have NB111_110 := ng_ BK110 hg; replace BK110 := bb_ BK110 hb; replace HB := Aside0.mk (below_step (by repeat (first | (with_reducible first | exact HB.out | apply bU | apply bS GE110.out) | exact HB.out)) hb); clear hb hbox hg; have hnb7 := NB110_111.out; have hnc7 := NB111_110.out; obtain ⟨hcz8_0, hcz8_1, hcz8_2, hcz8_3, hcz8_4, hcz8_5, hfz8_0, hfz8_1, hfz8_2, hfz8_3, hfz8_4, hfz8_5⟩ := c6_ BK110; obtain ⟨hcz9_0, hcz9_1, hcz9_2, hcz9_3, hcz9_4, hcz9_5, hfz9_0, hfz9_1, hfz9_2, hfz9_3, hfz9_4, hfz9_5⟩ := c6_ BK111) | ((with_reducible refine gate_callee (f := 30) rfl ?_); refine goesL_ (some 7) rfl rfl Try.func30 (by kernel_rfl) rfl #[.agg #[.int .i64 a0_0, .int .i64 a0_1, .int .i64 a0_2, .bool a0_3, .slice A0_4 l0_4.length c0_4, .slice A0_5 l0_5.length c0_5], .agg #[.int .i64 a1_0, .int .i64 a1_1, .int .i64 a1_2, .bool a1_3, .slice A1_4 l1_4.length c1_4, .slice A1_5 l1_5.length c1_5]] rfl (by (try simp only [List.map_toArray, List.map_cons, List.map_nil]); first | done | rfl | (simp only [List.length_drop, List.length_take]; rfl)) ?_; (with_reducible refine (waypointref32_Same.calls k a0_0 a0_1 a0_2 a0_3 _ _ l0_4 _ _ l0_5 a1_0 a1_1 a1_2 a1_3 _ _ l1_4 _ _ l1_5 true _ ?side1 ?side2 ?side3 ?side4 ?side5 ?side6 ?side7 ?side8 A3.out).mono ?_); (case side1 => exact cs_ HR0_4 HB); (case side2 => exact HC0_4.out); (case side3 => exact cs_ HR0_5 HB); (case side4 => exact HC0_5.out); (case side5 => exact cs_ HR1_4 HB); (case side6 => exact HC1_4.out); (case side7 => exact cs_ HR1_5 HB); (case side8 => exact HC1_5.out); rintro e w10 ⟨rfl, hb⟩; refine ⟨_, rfl, ?_⟩; replace BK110 := bb_ BK110 hb; replace BK111 := bb_ BK111 hb; replace HB := Aside0.mk (below_step (by repeat (first | (with_reducible first | exact HB.out | apply bU | apply bS GE110.out | apply bS GE111.out) | exact HB.out)) hb); (try clear hb); (try clear hb2); (try clear hk); (try clear hi); obtain ⟨hcz11_0, hcz11_1, hcz11_2, hcz11_3, hcz11_4, hcz11_5, hfz11_0, hfz11_1, hfz11_2, hfz11_3, hfz11_4, hfz11_5⟩ := c6_ BK110; obtain ⟨hcz12_0, hcz12_1, hcz12_2, hcz12_3, hcz12_4, hcz12_5, hfz12_0, hfz12_1, hfz12_2, hfz12_3, hfz12_4, hfz12_5⟩ := c6_ BK111))
  go_ret
  exact ⟨by first | rfl | (simp [errW_none, errW_some] <;> rfl) | (simp [*, errW_none, errW_some] <;> rfl), by repeat (first | (with_reducible first | exact HB.out | apply bU | apply bS GE110.out | apply bS GE111.out) | exact HB.out)⟩
 ·replace c4 := Bool.eq_false_iff.mpr c4
  subst c4
  have H1 : (some false) = some r := by rw [if_neg (show ¬ (false = true) by decide)] at H; exact H
  clear H
  have H := H1
  clear H1
  obtain rfl := Option.some.inj H
  go_enter Try.func13, Try.ntmps13
  go_wp2_with (first | ((with_reducible refine gate_dst (N := 2) rfl ?_); refine bx_ 2 #[.int .i64 a0_0, .int .i64 a0_1, .int .i64 a0_2, .bool a0_3, .slice A0_4 l0_4.length c0_4, .slice A0_5 l0_5.length c0_5] 32 rfl rfl ?hr ?_; (case hr => go_simp; try rfl); intro gb110 hg w13 hbox hb; have BK110 := Aside0.mk (hbox); have GW110 := gs_ HB hg; have GE110 := gs_ HB hg; replace HB := bs_ HB hb; clear hb hbox hg) | ((with_reducible refine gate_dst (N := 3) rfl ?_); refine bx_ 3 #[.int .i64 a1_0, .int .i64 a1_1, .int .i64 a1_2, .bool a1_3, .slice A1_4 l1_4.length c1_4, .slice A1_5 l1_5.length c1_5] 32 rfl rfl ?hr ?_; (case hr => go_simp; try rfl); intro gb111 hg w14 hbox hb; have BK111 := Aside0.mk (hbox); have GW111 := Aside0.mk ((by rw [hg]; exact (below_size (by repeat (first | (with_reducible first | exact HB.out | apply bU | apply bS GE110.out) | exact HB.out))) : w.heap.size ≤ gb111)); have GE111 := Aside0.mk ((by rw [hg]; exact (below_size (by repeat (first | (with_reducible first | exact HB.out | apply bU | apply bS GE110.out) | exact HB.out))) : w.heap.size ≤ gb111)); have NB110_111 := nl_ BK110 hg; have NB111_110 := ng_ BK110 hg; replace BK110 := bb_ BK110 hb; replace HB := Aside0.mk (below_step (by repeat (first | (with_reducible first | exact HB.out | apply bU | apply bS GE110.out) | exact HB.out)) hb); clear hb hbox hg; have hnb15 := NB110_111.out; have hnc15 := NB111_110.out; obtain ⟨hcz16_0, hcz16_1, hcz16_2, hcz16_3, hcz16_4, hcz16_5, hfz16_0, hfz16_1, hfz16_2, hfz16_3, hfz16_4, hfz16_5⟩ := c6_ BK110; obtain ⟨hcz17_0, hcz17_1, hcz17_2, hcz17_3, hcz17_4, hcz17_5, hfz17_0, hfz17_1, hfz17_2, hfz17_3, hfz17_4, hfz17_5⟩ := c6_ BK111) | ((with_reducible refine gate_callee (f := 30) rfl ?_); refine goesL_ (some 7) rfl rfl Try.func30 (by kernel_rfl) rfl #[.agg #[.int .i64 a0_0, .int .i64 a0_1, .int .i64 a0_2, .bool a0_3, .slice A0_4 l0_4.length c0_4, .slice A0_5 l0_5.length c0_5], .agg #[.int .i64 a1_0, .int .i64 a1_1, .int .i64 a1_2, .bool a1_3, .slice A1_4 l1_4.length c1_4, .slice A1_5 l1_5.length c1_5]] rfl (by (try simp only [List.map_toArray, List.map_cons, List.map_nil]); first | done | rfl | (simp only [List.length_drop, List.length_take]; rfl)) ?_; (with_reducible refine (waypointref32_Same.calls k a0_0 a0_1 a0_2 a0_3 _ _ l0_4 _ _ l0_5 a1_0 a1_1 a1_2 a1_3 _ _ l1_4 _ _ l1_5 false _ ?side1 ?side2 ?side3 ?side4 ?side5 ?side6 ?side7 ?side8 A3.out).mono ?_); (case side1 => exact cs_ HR0_4 HB); (case side2 => exact HC0_4.out); (case side3 => exact cs_ HR0_5 HB); (case side4 => exact HC0_5.out); (case side5 => exact cs_ HR1_4 HB); (case side6 => exact HC1_4.out); (case side7 => exact cs_ HR1_5 HB); (case side8 => exact HC1_5.out); rintro e w18 ⟨rfl, hb⟩; refine ⟨_, rfl, ?_⟩; replace BK110 := bb_ BK110 hb; replace BK111 := bb_ BK111 hb; replace HB := Aside0.mk (below_step (by repeat (first | (with_reducible first | exact HB.out | apply bU | apply bS GE110.out | apply bS GE111.out) | exact HB.out)) hb); (try clear hb); (try clear hb2); (try clear hk); (try clear hi)))
  go_ret
  exact ⟨by first | rfl | (simp [errW_none, errW_some] <;> rfl) | (simp [*, errW_none, errW_some] <;> rfl), by repeat (first | (with_reducible first | exact HB.out | apply bU | apply bS GE110.out | apply bS GE111.out) | exact HB.out)⟩

/-! ### lsa_within: function 35 -/
def lsa_within.f (a0 : Int) (a1 : Int) (a2 : Int) : Option (Bool) := if a0 ≥ a1 then (some (decide (a0 ≤ a2))) else (some false)
set_option maxHeartbeats 8000000 in
set_option maxRecDepth 100000 in
theorem lsa_within.calls (a0 : Int) (a1 : Int) (a2 : Int) (r : Bool) (w : World) (h : lsa_within.f a0 a1 a2 = some r) :
  Calls Try.prog 35 #[.int .i64 a0, .int .i64 a1, .int .i64 a2] w fun e w' => e = .returned (.bool r) ∧ Drawn0 w w' := by
 have H : (if a0 ≥ a1 then (some (decide (a0 ≤ a2))) else (some false)) = some r := h
 clear h
 by_cases c4 : a0 ≥ a1
 ·rw [if_pos c4] at H
  have c4b0 : decide (a1 ≤ a0) = true := decide_eq_true c4
  clear c4
  obtain rfl := Option.some.inj H
  go_enter Try.func35, Try.ntmps35
  go_wp2
  go_ret
  exact ⟨by first | rfl | (simp; done) | (simp [*]; done), by repeat (first | exact Drawn0.refl _ | apply Drawn0.step)⟩
 ·rw [if_neg c4] at H
  have c4b0 : decide (a1 ≤ a0) = false := decide_eq_false c4
  clear c4
  obtain rfl := Option.some.inj H
  go_enter Try.func35, Try.ntmps35
  go_wp2
  go_ret
  exact ⟨by first | rfl | (simp; done) | (simp [*]; done), by repeat (first | exact Drawn0.refl _ | apply Drawn0.step)⟩

/-! ### lsa_adjacency: function 36 -/
def lsa_adjacency.f (a0 : Int) (a1_0 : Int) (a1_1 : Int) (a1_2 : Int) : Option (Bool) := (lsa_within.f a1_1 0 255).bind fun t114 => (if t114 = true then ((lsa_within.f a1_0 0 63).bind fun t115 => (if t115 = true then (if a1_0 = a0 then (some false) else ((lsa_within.f a1_2 1 65535).bind fun t116 => (some t116))) else (some false))) else (some false))
set_option maxHeartbeats 8000000 in
set_option maxRecDepth 100000 in
theorem lsa_adjacency.calls (a0 : Int) (a1_0 : Int) (a1_1 : Int) (a1_2 : Int) (r : Bool) (w : World) (h : lsa_adjacency.f a0 a1_0 a1_1 a1_2 = some r) :
  Calls Try.prog 36 #[.int .i64 a0, .agg #[.int .i64 a1_0, .int .i64 a1_1, .int .i64 a1_2]] w fun e w' => e = .returned (.bool r) ∧ Below w.heap.size w w' := by
 have hu72 := Try.underlying72
 have HB := Aside0.mk (Below.refl w.heap.size w)
 have H : ((lsa_within.f a1_1 0 255).bind fun t114 => (if t114 = true then ((lsa_within.f a1_0 0 63).bind fun t115 => (if t115 = true then (if a1_0 = a0 then (some false) else ((lsa_within.f a1_2 1 65535).bind fun t116 => (some t116))) else (some false))) else (some false))) = some r := h
 clear h
 replace H := Option.bind_eq_some_iff.mp H
 obtain ⟨t114, A30, H⟩ := H
 replace H : (if t114 = true then ((lsa_within.f a1_0 0 63).bind fun t115 => (if t115 = true then (if a1_0 = a0 then (some false) else ((lsa_within.f a1_2 1 65535).bind fun t116 => (some t116))) else (some false))) else (some false)) = some r := H
 have A3 := Aside0.mk A30
 clear A30
 by_cases c4 : t114 = true
 ·subst c4
  have H1 : ((lsa_within.f a1_0 0 63).bind fun t115 => (if t115 = true then (if a1_0 = a0 then (some false) else ((lsa_within.f a1_2 1 65535).bind fun t116 => (some t116))) else (some false))) = some r := by rw [if_pos rfl] at H; exact H
  clear H
  have H := H1
  clear H1
  replace H := Option.bind_eq_some_iff.mp H
  obtain ⟨t115, A50, H⟩ := H
  replace H : (if t115 = true then (if a1_0 = a0 then (some false) else ((lsa_within.f a1_2 1 65535).bind fun t116 => (some t116))) else (some false)) = some r := H
  have A5 := Aside0.mk A50
  clear A50
  by_cases c6 : t115 = true
  ·subst c6
   have H1 : (if a1_0 = a0 then (some false) else ((lsa_within.f a1_2 1 65535).bind fun t116 => (some t116))) = some r := by rw [if_pos rfl] at H; exact H
   clear H
   have H := H1
   clear H1
   by_cases c7 : a1_0 = a0
   ·rw [if_pos c7] at H
    have c7b0 : (a1_0 == a0) = true := beq_iff_eq.mpr c7
    have c7b1 : (a1_0 != a0) = false := bne_eq_false_iff_eq.mpr c7
    clear c7
    obtain rfl := Option.some.inj H
    go_enter Try.func36, Try.ntmps36
    go_wp2_with (first | ((with_reducible refine gate_dst (N := 3) rfl ?_); refine bx_ 3 #[.int .i64 a1_0, .int .i64 a1_1, .int .i64 a1_2] 72 rfl rfl ?hr ?_; (case hr => go_simp; try rfl); intro gb113 hg w8 hbox hb; have BK113 := Aside0.mk (hbox); have GW113 := gs_ HB hg; have GE113 := gs_ HB hg; replace HB := bs_ HB hb; clear hb hbox hg; obtain ⟨hcz9_0, hcz9_1, hcz9_2, hfz9_0, hfz9_1, hfz9_2⟩ := c3_ BK113) | ((with_reducible refine gate_callee (f := 35) rfl ?_); refine goesL_ (some 7) rfl rfl Try.func35 (by kernel_rfl) rfl #[.int .i64 a1_1, .int .i64 0, .int .i64 255] rfl (by (try simp only [List.map_toArray, List.map_cons, List.map_nil]); first | done | rfl | (simp only [List.length_drop, List.length_take]; rfl)) ?_; (with_reducible refine (lsa_within.calls a1_1 0 255 true _ A3.out).mono ?_); rintro e w' ⟨rfl, ⟨nd, rfl⟩⟩; refine ⟨_, rfl, ?_⟩) | (go_at_call 35; (with_reducible refine (lsa_within.calls a1_0 0 63 true _ A5.out).mono ?_); rintro e w' ⟨rfl, ⟨nd, rfl⟩⟩))
    go_ret
    exact ⟨by first | rfl | (simp [errW_none, errW_some] <;> rfl) | (simp [*, errW_none, errW_some] <;> rfl), by repeat (first | (with_reducible first | exact HB.out | apply bU | apply bS GE113.out) | exact HB.out)⟩
   ·rw [if_neg c7] at H
    have c7b0 : (a1_0 == a0) = false := beq_eq_false_iff_ne.mpr c7
    have c7b1 : (a1_0 != a0) = true := bne_iff_ne.mpr c7
    replace H := Option.bind_eq_some_iff.mp H
    obtain ⟨t116, A100, H⟩ := H
    replace H : (some t116) = some r := H
    have A10 := Aside0.mk A100
    clear A100
    obtain rfl := Option.some.inj H
    go_enter Try.func36, Try.ntmps36
    go_wp2_with (first | ((with_reducible refine gate_dst (N := 3) rfl ?_); refine bx_ 3 #[.int .i64 a1_0, .int .i64 a1_1, .int .i64 a1_2] 72 rfl rfl ?hr ?_; (case hr => go_simp; try rfl); intro gb113 hg w11 hbox hb; have BK113 := Aside0.mk (hbox); have GW113 := gs_ HB hg; have GE113 := gs_ HB hg; replace HB := bs_ HB hb; clear hb hbox hg; obtain ⟨hcz12_0, hcz12_1, hcz12_2, hfz12_0, hfz12_1, hfz12_2⟩ := c3_ BK113) | ((with_reducible refine gate_callee (f := 35) rfl ?_); refine goesL_ (some 7) rfl rfl Try.func35 (by kernel_rfl) rfl #[.int .i64 a1_1, .int .i64 0, .int .i64 255] rfl (by (try simp only [List.map_toArray, List.map_cons, List.map_nil]); first | done | rfl | (simp only [List.length_drop, List.length_take]; rfl)) ?_; (with_reducible refine (lsa_within.calls a1_1 0 255 true _ A3.out).mono ?_); rintro e w' ⟨rfl, ⟨nd, rfl⟩⟩; refine ⟨_, rfl, ?_⟩) | (go_at_call 35; (with_reducible refine (lsa_within.calls a1_0 0 63 true _ A5.out).mono ?_); rintro e w' ⟨rfl, ⟨nd, rfl⟩⟩) | (go_at_call 35; (with_reducible refine (lsa_within.calls a1_2 1 65535 t116 _ A10.out).mono ?_); rintro e w' ⟨rfl, ⟨nd, rfl⟩⟩))
    go_ret
    exact ⟨by first | rfl | (simp [errW_none, errW_some] <;> rfl) | (simp [*, errW_none, errW_some] <;> rfl), by repeat (first | (with_reducible first | exact HB.out | apply bU | apply bS GE113.out) | exact HB.out)⟩
  ·replace c6 := Bool.eq_false_iff.mpr c6
   subst c6
   have H1 : (some false) = some r := by rw [if_neg (show ¬ (false = true) by decide)] at H; exact H
   clear H
   have H := H1
   clear H1
   obtain rfl := Option.some.inj H
   go_enter Try.func36, Try.ntmps36
   go_wp2_with (first | ((with_reducible refine gate_dst (N := 3) rfl ?_); refine bx_ 3 #[.int .i64 a1_0, .int .i64 a1_1, .int .i64 a1_2] 72 rfl rfl ?hr ?_; (case hr => go_simp; try rfl); intro gb113 hg w13 hbox hb; have BK113 := Aside0.mk (hbox); have GW113 := gs_ HB hg; have GE113 := gs_ HB hg; replace HB := bs_ HB hb; clear hb hbox hg; obtain ⟨hcz14_0, hcz14_1, hcz14_2, hfz14_0, hfz14_1, hfz14_2⟩ := c3_ BK113) | ((with_reducible refine gate_callee (f := 35) rfl ?_); refine goesL_ (some 7) rfl rfl Try.func35 (by kernel_rfl) rfl #[.int .i64 a1_1, .int .i64 0, .int .i64 255] rfl (by (try simp only [List.map_toArray, List.map_cons, List.map_nil]); first | done | rfl | (simp only [List.length_drop, List.length_take]; rfl)) ?_; (with_reducible refine (lsa_within.calls a1_1 0 255 true _ A3.out).mono ?_); rintro e w' ⟨rfl, ⟨nd, rfl⟩⟩; refine ⟨_, rfl, ?_⟩) | (go_at_call 35; (with_reducible refine (lsa_within.calls a1_0 0 63 false _ A5.out).mono ?_); rintro e w' ⟨rfl, ⟨nd, rfl⟩⟩))
   go_ret
   exact ⟨by first | rfl | (simp [errW_none, errW_some] <;> rfl) | (simp [*, errW_none, errW_some] <;> rfl), by repeat (first | (with_reducible first | exact HB.out | apply bU | apply bS GE113.out) | exact HB.out)⟩
 ·replace c4 := Bool.eq_false_iff.mpr c4
  subst c4
  have H1 : (some false) = some r := by rw [if_neg (show ¬ (false = true) by decide)] at H; exact H
  clear H
  have H := H1
  clear H1
  obtain rfl := Option.some.inj H
  go_enter Try.func36, Try.ntmps36
  go_wp2_with (first | ((with_reducible refine gate_dst (N := 3) rfl ?_); refine bx_ 3 #[.int .i64 a1_0, .int .i64 a1_1, .int .i64 a1_2] 72 rfl rfl ?hr ?_; (case hr => go_simp; try rfl); intro gb113 hg w15 hbox hb; have BK113 := Aside0.mk (hbox); have GW113 := gs_ HB hg; have GE113 := gs_ HB hg; replace HB := bs_ HB hb; clear hb hbox hg; obtain ⟨hcz16_0, hcz16_1, hcz16_2, hfz16_0, hfz16_1, hfz16_2⟩ := c3_ BK113) | ((with_reducible refine gate_callee (f := 35) rfl ?_); refine goesL_ (some 7) rfl rfl Try.func35 (by kernel_rfl) rfl #[.int .i64 a1_1, .int .i64 0, .int .i64 255] rfl (by (try simp only [List.map_toArray, List.map_cons, List.map_nil]); first | done | rfl | (simp only [List.length_drop, List.length_take]; rfl)) ?_; (with_reducible refine (lsa_within.calls a1_1 0 255 false _ A3.out).mono ?_); rintro e w' ⟨rfl, ⟨nd, rfl⟩⟩; refine ⟨_, rfl, ?_⟩))
  go_ret
  exact ⟨by first | rfl | (simp [errW_none, errW_some] <;> rfl) | (simp [*, errW_none, errW_some] <;> rfl), by repeat (first | (with_reducible first | exact HB.out | apply bU | apply bS GE113.out) | exact HB.out)⟩

/-! ### lsa_prefix: function 37 -/
def lsa_prefix.f (a0_0 : Int) (a0_1 : Int) : Option (Bool) := (lsa_within.f a0_1 0 32).bind fun t118 => (if t118 = true then (if 0 ≤ a0_1 then (some ((Go.bits .and .u64 (shl .u64 (IntKind.u64.wrap (a0_0)) a0_1) 4294967295) == 0)) else (none)) else (some false))
set_option maxHeartbeats 8000000 in
set_option maxRecDepth 100000 in
theorem lsa_prefix.calls (a0_0 : Int) (a0_1 : Int) (r : Bool) (w : World) (h : lsa_prefix.f a0_0 a0_1 = some r) :
  Calls Try.prog 37 #[.agg #[.int .u32 a0_0, .int .i64 a0_1]] w fun e w' => e = .returned (.bool r) ∧ Below w.heap.size w w' := by
 have hu76 := Try.underlying76
 have HB := Aside0.mk (Below.refl w.heap.size w)
 have H : ((lsa_within.f a0_1 0 32).bind fun t118 => (if t118 = true then (if 0 ≤ a0_1 then (some ((Go.bits .and .u64 (shl .u64 (IntKind.u64.wrap (a0_0)) a0_1) 4294967295) == 0)) else (none)) else (some false))) = some r := h
 clear h
 replace H := Option.bind_eq_some_iff.mp H
 obtain ⟨t118, A20, H⟩ := H
 replace H : (if t118 = true then (if 0 ≤ a0_1 then (some ((Go.bits .and .u64 (shl .u64 (IntKind.u64.wrap (a0_0)) a0_1) 4294967295) == 0)) else (none)) else (some false)) = some r := H
 have A2 := Aside0.mk A20
 clear A20
 by_cases c3 : t118 = true
 ·subst c3
  have H1 : (if 0 ≤ a0_1 then (some ((Go.bits .and .u64 (shl .u64 (IntKind.u64.wrap (a0_0)) a0_1) 4294967295) == 0)) else (none)) = some r := by rw [if_pos rfl] at H; exact H
  clear H
  have H := H1
  clear H1
  by_cases c4 : 0 ≤ a0_1
  ·rw [if_pos c4] at H
   have c4b0 := eq_true c4
   have c4b1 : decide (0 ≤ a0_1) = true := decide_eq_true c4
   clear c4
   obtain ⟨ji5, hji5⟩ : ∃ j_ : Int, (shl .u64 (IntKind.u64.wrap (a0_0)) a0_1) = j_ := ⟨_, rfl⟩
   replace H : (some ((Go.bits .and .u64 (ji5) 4294967295) == 0)) = some r := by first | (rw [hji5] at H; exact H) | (simp only [hji5] at H ⊢; exact H)
   (try rw [hji5] at A2)
   have hji5_ : (IntKind.u64.wrap ((IntKind.u64.wrap (a0_0)) * 2 ^ min a0_1.toNat 64)) = ji5 := hji5
   have hji5z : a0_1 ≤ 64 → (IntKind.u64.wrap ((IntKind.u64.wrap (a0_0)) * 2 ^ a0_1.toNat)) = ji5 := shl_small hji5
   obtain rfl := Option.some.inj H
   go_enter Try.func37, Try.ntmps37
   go_wp2_with (first | ((with_reducible refine gate_dst (N := 1) rfl ?_); refine bx_ 1 #[.int .u32 a0_0, .int .i64 a0_1] 76 rfl rfl ?hr ?_; (case hr => go_simp; try rfl); intro gb117 hg w6 hbox hb; have BK117 := Aside0.mk (hbox); have GW117 := gs_ HB hg; have GE117 := gs_ HB hg; replace HB := bs_ HB hb; clear hb hbox hg; obtain ⟨hcz7_0, hcz7_1, hfz7_0, hfz7_1⟩ := c2_ BK117) | ((with_reducible refine gate_callee (f := 35) rfl ?_); refine goesL_ (some 5) rfl rfl Try.func35 (by kernel_rfl) rfl #[.int .i64 a0_1, .int .i64 0, .int .i64 32] rfl (by (try simp only [List.map_toArray, List.map_cons, List.map_nil]); first | done | rfl | (simp only [List.length_drop, List.length_take]; rfl)) ?_; (with_reducible refine (lsa_within.calls a0_1 0 32 true _ A2.out).mono ?_); rintro e w' ⟨rfl, ⟨nd, rfl⟩⟩; refine ⟨_, rfl, ?_⟩))
   go_ret
   exact ⟨by first | rfl | (simp [errW_none, errW_some] <;> rfl) | (simp only [← hji5]; first | rfl | (simp [errW_none, errW_some] <;> rfl)) | (simp [*, errW_none, errW_some] <;> rfl), by repeat (first | (with_reducible first | exact HB.out | apply bU | apply bS GE117.out) | exact HB.out)⟩
  ·rw [if_neg c4] at H
   exact absurd H (by simp)
 ·replace c3 := Bool.eq_false_iff.mpr c3
  subst c3
  have H1 : (some false) = some r := by rw [if_neg (show ¬ (false = true) by decide)] at H; exact H
  clear H
  have H := H1
  clear H1
  obtain rfl := Option.some.inj H
  go_enter Try.func37, Try.ntmps37
  go_wp2_with (first | ((with_reducible refine gate_dst (N := 1) rfl ?_); refine bx_ 1 #[.int .u32 a0_0, .int .i64 a0_1] 76 rfl rfl ?hr ?_; (case hr => go_simp; try rfl); intro gb117 hg w8 hbox hb; have BK117 := Aside0.mk (hbox); have GW117 := gs_ HB hg; have GE117 := gs_ HB hg; replace HB := bs_ HB hb; clear hb hbox hg; obtain ⟨hcz9_0, hcz9_1, hfz9_0, hfz9_1⟩ := c2_ BK117) | ((with_reducible refine gate_callee (f := 35) rfl ?_); refine goesL_ (some 5) rfl rfl Try.func35 (by kernel_rfl) rfl #[.int .i64 a0_1, .int .i64 0, .int .i64 32] rfl (by (try simp only [List.map_toArray, List.map_cons, List.map_nil]); first | done | rfl | (simp only [List.length_drop, List.length_take]; rfl)) ?_; (with_reducible refine (lsa_within.calls a0_1 0 32 false _ A2.out).mono ?_); rintro e w' ⟨rfl, ⟨nd, rfl⟩⟩; refine ⟨_, rfl, ?_⟩))
  go_ret
  exact ⟨by first | rfl | (simp [errW_none, errW_some] <;> rfl) | (simp [*, errW_none, errW_some] <;> rfl), by repeat (first | (with_reducible first | exact HB.out | apply bU | apply bS GE117.out) | exact HB.out)⟩

/-! ### lsa_less: function 38 -/
def lsa_less.f (a0_0 : Int) (a0_1 : Int) (a1_0 : Int) (a1_1 : Int) : Option (Bool) := if a0_0 < a1_0 then (some true) else (if a0_0 = a1_0 then (some (decide (a0_1 < a1_1))) else (some false))
set_option maxHeartbeats 8000000 in
set_option maxRecDepth 100000 in
theorem lsa_less.calls (a0_0 : Int) (a0_1 : Int) (a1_0 : Int) (a1_1 : Int) (r : Bool) (w : World) (h : lsa_less.f a0_0 a0_1 a1_0 a1_1 = some r) :
  Calls Try.prog 38 #[.agg #[.int .u32 a0_0, .int .i64 a0_1], .agg #[.int .u32 a1_0, .int .i64 a1_1]] w fun e w' => e = .returned (.bool r) ∧ Below w.heap.size w w' := by
 have hu76 := Try.underlying76
 have HB := Aside0.mk (Below.refl w.heap.size w)
 have H : (if a0_0 < a1_0 then (some true) else (if a0_0 = a1_0 then (some (decide (a0_1 < a1_1))) else (some false))) = some r := h
 clear h
 by_cases c3 : a0_0 < a1_0
 ·rw [if_pos c3] at H
  have c3b0 : decide (a0_0 < a1_0) = true := decide_eq_true c3
  clear c3
  obtain rfl := Option.some.inj H
  go_enter Try.func38, Try.ntmps38
  go_wp2_with (first | ((with_reducible refine gate_dst (N := 2) rfl ?_); refine bx_ 2 #[.int .u32 a0_0, .int .i64 a0_1] 76 rfl rfl ?hr ?_; (case hr => go_simp; try rfl); intro gb119 hg w4 hbox hb; have BK119 := Aside0.mk (hbox); have GW119 := gs_ HB hg; have GE119 := gs_ HB hg; replace HB := bs_ HB hb; clear hb hbox hg) | ((with_reducible refine gate_dst (N := 3) rfl ?_); refine bx_ 3 #[.int .u32 a1_0, .int .i64 a1_1] 76 rfl rfl ?hr ?_; (case hr => go_simp; try rfl); intro gb120 hg w5 hbox hb; have BK120 := Aside0.mk (hbox); have GW120 := Aside0.mk ((by rw [hg]; exact (below_size (by repeat (first | (with_reducible first | exact HB.out | apply bU | apply bS GE119.out) | exact HB.out))) : w.heap.size ≤ gb120)); have GE120 := Aside0.mk ((by rw [hg]; exact (below_size (by repeat (first | (with_reducible first | exact HB.out | apply bU | apply bS GE119.out) | exact HB.out))) : w.heap.size ≤ gb120)); have NB119_120 := nl_ BK119 hg; have NB120_119 := ng_ BK119 hg; replace BK119 := bb_ BK119 hb; replace HB := Aside0.mk (below_step (by repeat (first | (with_reducible first | exact HB.out | apply bU | apply bS GE119.out) | exact HB.out)) hb); clear hb hbox hg; have hnb6 := NB119_120.out; have hnc6 := NB120_119.out; obtain ⟨hcz7_0, hcz7_1, hfz7_0, hfz7_1⟩ := c2_ BK119; obtain ⟨hcz8_0, hcz8_1, hfz8_0, hfz8_1⟩ := c2_ BK120))
  go_ret
  exact ⟨by first | rfl | (simp [errW_none, errW_some] <;> rfl) | (simp [*, errW_none, errW_some] <;> rfl), by repeat (first | (with_reducible first | exact HB.out | apply bU | apply bS GE119.out | apply bS GE120.out) | exact HB.out)⟩
 ·rw [if_neg c3] at H
  have c3b0 : decide (a0_0 < a1_0) = false := decide_eq_false c3
  clear c3
  by_cases c9 : a0_0 = a1_0
  ·rw [if_pos c9] at H
   have c9b0 : (a0_0 == a1_0) = true := beq_iff_eq.mpr c9
   have c9b1 : (a0_0 != a1_0) = false := bne_eq_false_iff_eq.mpr c9
   clear c9
   obtain rfl := Option.some.inj H
   go_enter Try.func38, Try.ntmps38
   go_wp2_with (first | ((with_reducible refine gate_dst (N := 2) rfl ?_); refine bx_ 2 #[.int .u32 a0_0, .int .i64 a0_1] 76 rfl rfl ?hr ?_; (case hr => go_simp; try rfl); intro gb119 hg w10 hbox hb; have BK119 := Aside0.mk (hbox); have GW119 := gs_ HB hg; have GE119 := gs_ HB hg; replace HB := bs_ HB hb; clear hb hbox hg) | ((with_reducible refine gate_dst (N := 3) rfl ?_); refine bx_ 3 #[.int .u32 a1_0, .int .i64 a1_1] 76 rfl rfl ?hr ?_; (case hr => go_simp; try rfl); intro gb120 hg w11 hbox hb; have BK120 := Aside0.mk (hbox); have GW120 := Aside0.mk ((by rw [hg]; exact (below_size (by repeat (first | (with_reducible first | exact HB.out | apply bU | apply bS GE119.out) | exact HB.out))) : w.heap.size ≤ gb120)); have GE120 := Aside0.mk ((by rw [hg]; exact (below_size (by repeat (first | (with_reducible first | exact HB.out | apply bU | apply bS GE119.out) | exact HB.out))) : w.heap.size ≤ gb120)); have NB119_120 := nl_ BK119 hg; have NB120_119 := ng_ BK119 hg; replace BK119 := bb_ BK119 hb; replace HB := Aside0.mk (below_step (by repeat (first | (with_reducible first | exact HB.out | apply bU | apply bS GE119.out) | exact HB.out)) hb); clear hb hbox hg; have hnb12 := NB119_120.out; have hnc12 := NB120_119.out; obtain ⟨hcz13_0, hcz13_1, hfz13_0, hfz13_1⟩ := c2_ BK119; obtain ⟨hcz14_0, hcz14_1, hfz14_0, hfz14_1⟩ := c2_ BK120))
   go_ret
   exact ⟨by first | rfl | (simp [errW_none, errW_some] <;> rfl) | (simp [*, errW_none, errW_some] <;> rfl), by repeat (first | (with_reducible first | exact HB.out | apply bU | apply bS GE119.out | apply bS GE120.out) | exact HB.out)⟩
  ·rw [if_neg c9] at H
   have c9b0 : (a0_0 == a1_0) = false := beq_eq_false_iff_ne.mpr c9
   have c9b1 : (a0_0 != a1_0) = true := bne_iff_ne.mpr c9
   obtain rfl := Option.some.inj H
   go_enter Try.func38, Try.ntmps38
   go_wp2_with (first | ((with_reducible refine gate_dst (N := 2) rfl ?_); refine bx_ 2 #[.int .u32 a0_0, .int .i64 a0_1] 76 rfl rfl ?hr ?_; (case hr => go_simp; try rfl); intro gb119 hg w15 hbox hb; have BK119 := Aside0.mk (hbox); have GW119 := gs_ HB hg; have GE119 := gs_ HB hg; replace HB := bs_ HB hb; clear hb hbox hg) | ((with_reducible refine gate_dst (N := 3) rfl ?_); refine bx_ 3 #[.int .u32 a1_0, .int .i64 a1_1] 76 rfl rfl ?hr ?_; (case hr => go_simp; try rfl); intro gb120 hg w16 hbox hb; have BK120 := Aside0.mk (hbox); have GW120 := Aside0.mk ((by rw [hg]; exact (below_size (by repeat (first | (with_reducible first | exact HB.out | apply bU | apply bS GE119.out) | exact HB.out))) : w.heap.size ≤ gb120)); have GE120 := Aside0.mk ((by rw [hg]; exact (below_size (by repeat (first | (with_reducible first | exact HB.out | apply bU | apply bS GE119.out) | exact HB.out))) : w.heap.size ≤ gb120)); have NB119_120 := nl_ BK119 hg; have NB120_119 := ng_ BK119 hg; replace BK119 := bb_ BK119 hb; replace HB := Aside0.mk (below_step (by repeat (first | (with_reducible first | exact HB.out | apply bU | apply bS GE119.out) | exact HB.out)) hb); clear hb hbox hg; have hnb17 := NB119_120.out; have hnc17 := NB120_119.out; obtain ⟨hcz18_0, hcz18_1, hfz18_0, hfz18_1⟩ := c2_ BK119; obtain ⟨hcz19_0, hcz19_1, hfz19_0, hfz19_1⟩ := c2_ BK120))
   go_ret
   exact ⟨by first | rfl | (simp [errW_none, errW_some] <;> rfl) | (simp [*, errW_none, errW_some] <;> rfl), by repeat (first | (with_reducible first | exact HB.out | apply bU | apply bS GE119.out | apply bS GE120.out) | exact HB.out)⟩

end Go.Proofs.Ytdkfhlfojleejaa.HLsc
