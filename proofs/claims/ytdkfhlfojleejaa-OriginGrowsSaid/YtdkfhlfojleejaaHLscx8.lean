-- LAID by wip/hand.py, a program of this repository, over the kit's print: contracts of our own are put in. Lean checks it.
import Derived.Test.YtdkfhlfojleejaaHLscx0
import Derived.Test.YtdkfhlfojleejaaHLscx1
import Derived.Test.YtdkfhlfojleejaaHLscx7
namespace Go.Proofs.Ytdkfhlfojleejaa.HLsc
open Go.RowKit Go.Proofs.YtdkfhlfojleejaaW.PrintWords Go.Proofs.YtdkfhlfojleejaaW.PrintLast Go.Proofs.YtdkfhlfojleejaaW.PrintMore
attribute [local go_sem] gtr_str leq_str max2_int min2_int max_two min_two max_three min_three max_four min_four   -- for this text's walks alone
set_option linter.unusedVariables false
set_option linter.unusedSimpArgs false

attribute [local go_sem high] eqA72
/-! ### waypointref32_Valid: function 23 -/
mutual
def waypointref32_Valid.j0 : Nat → Bool → Int → Int → Int → Bool → List (S72) → List (S76) → Option (Bool)
 | 0, _, _, _, _, _, _, _ => none
 | k + 1, x46, x248000, x248001, x248002, x248003, x248004, x248005 => if x46 = true then (some false) else (waypointref32_Valid.l0 k 0 x248000 x248001 x248002 x248003 x248004 x248005)
def waypointref32_Valid.l0 : Nat → Int → Int → Int → Int → Bool → List (S72) → List (S76) → Option (Bool)
 | 0, _, _, _, _, _, _, _ => none
 | k + 1, x3, x248000, x248001, x248002, x248003, x248004, x248005 => if x3 < (x248004.length : Int) then (if 0 ≤ x3 then (if ((rd_T72 x248004 x3).f1) < 0 then (waypointref32_Valid.j2 k x3 true x248000 x248001 x248002 x248003 x248004 x248005) else (if ((rd_T72 x248004 x3).f1) > 255 then (waypointref32_Valid.j2 k x3 true x248000 x248001 x248002 x248003 x248004 x248005) else (if ((rd_T72 x248004 x3).f0) < 0 then (waypointref32_Valid.j2 k x3 true x248000 x248001 x248002 x248003 x248004 x248005) else (if ((rd_T72 x248004 x3).f0) > 63 then (waypointref32_Valid.j2 k x3 true x248000 x248001 x248002 x248003 x248004 x248005) else (if ((rd_T72 x248004 x3).f0) = x248000 then (waypointref32_Valid.j2 k x3 true x248000 x248001 x248002 x248003 x248004 x248005) else (if ((rd_T72 x248004 x3).f2) < 1 then (waypointref32_Valid.j2 k x3 true x248000 x248001 x248002 x248003 x248004 x248005) else (if ((rd_T72 x248004 x3).f2) > 65535 then (waypointref32_Valid.j2 k x3 true x248000 x248001 x248002 x248003 x248004 x248005) else (if x3 > 0 then (if 0 ≤ (wrap64 (x3 - 1)) then (if (wrap64 (x3 - 1)) < (x248004.length : Int) then (waypointref32_Valid.j2 k x3 (decide (((rd_T72 x248004 x3).f1) ≤ ((rd_T72 x248004 (wrap64 (x3 - 1))).f1))) x248000 x248001 x248002 x248003 x248004 x248005) else (none)) else (none)) else (waypointref32_Valid.j2 k x3 false x248000 x248001 x248002 x248003 x248004 x248005))))))))) else (none)) else (waypointref32_Valid.l1 k 0 x248000 x248001 x248002 x248003 x248004 x248005)
def waypointref32_Valid.j2 : Nat → Int → Bool → Int → Int → Int → Bool → List (S72) → List (S76) → Option (Bool)
 | 0, _, _, _, _, _, _, _, _ => none
 | k + 1, x3, x109, x248000, x248001, x248002, x248003, x248004, x248005 => if x109 = true then (some false) else (waypointref32_Valid.l0 k (wrap64 (x3 + 1)) x248000 x248001 x248002 x248003 x248004 x248005)
def waypointref32_Valid.l1 : Nat → Int → Int → Int → Int → Bool → List (S72) → List (S76) → Option (Bool)
 | 0, _, _, _, _, _, _, _ => none
 | k + 1, x5, x248000, x248001, x248002, x248003, x248004, x248005 => if x5 < (x248005.length : Int) then (if 0 ≤ x5 then ((waypointref32_Prefix.f k ((rd_T76 x248005 x5).f0) ((rd_T76 x248005 x5).f1)).bind fun t253 => (if t253 = true then (if x5 > 0 then (if 0 ≤ (wrap64 (x5 - 1)) then (if (wrap64 (x5 - 1)) < (x248005.length : Int) then (if ((rd_T76 x248005 x5).f0) < ((rd_T76 x248005 (wrap64 (x5 - 1))).f0) then (waypointref32_Valid.j4 k x5 true x248000 x248001 x248002 x248003 x248004 x248005) else (if ((rd_T76 x248005 x5).f0) = ((rd_T76 x248005 (wrap64 (x5 - 1))).f0) then (waypointref32_Valid.j4 k x5 (decide (((rd_T76 x248005 x5).f1) ≤ ((rd_T76 x248005 (wrap64 (x5 - 1))).f1))) x248000 x248001 x248002 x248003 x248004 x248005) else (waypointref32_Valid.j4 k x5 false x248000 x248001 x248002 x248003 x248004 x248005))) else (none)) else (none)) else (waypointref32_Valid.j4 k x5 false x248000 x248001 x248002 x248003 x248004 x248005)) else (some false))) else (none)) else (if x248002 = 3600 then (if x248003 = true then (some false) else (if (x248004.length : Int) = 0 then (some ((x248005.length : Int) == 0)) else (some false))) else (some true))
def waypointref32_Valid.j4 : Nat → Int → Bool → Int → Int → Int → Bool → List (S72) → List (S76) → Option (Bool)
 | 0, _, _, _, _, _, _, _, _ => none
 | k + 1, x5, x162, x248000, x248001, x248002, x248003, x248004, x248005 => if x162 = true then (some false) else (waypointref32_Valid.l1 k (wrap64 (x5 + 1)) x248000 x248001 x248002 x248003 x248004 x248005)
end
def waypointref32_Valid.f (k : Nat) (a0_0 : Int) (a0_1 : Int) (a0_2 : Int) (a0_3 : Bool) (l0_4 : List (S72)) (l0_5 : List (S76)) : Option (Bool) := if a0_0 < 0 then (waypointref32_Valid.j0 k true a0_0 a0_1 a0_2 a0_3 l0_4 l0_5) else (if a0_0 > 63 then (waypointref32_Valid.j0 k true a0_0 a0_1 a0_2 a0_3 l0_4 l0_5) else (if a0_1 < 1 then (waypointref32_Valid.j0 k true a0_0 a0_1 a0_2 a0_3 l0_4 l0_5) else (if a0_1 > 1073741824 then (waypointref32_Valid.j0 k true a0_0 a0_1 a0_2 a0_3 l0_4 l0_5) else (if a0_2 < 0 then (waypointref32_Valid.j0 k true a0_0 a0_1 a0_2 a0_3 l0_4 l0_5) else (if a0_2 > 3600 then (waypointref32_Valid.j0 k true a0_0 a0_1 a0_2 a0_3 l0_4 l0_5) else (if (l0_4.length : Int) > 256 then (waypointref32_Valid.j0 k true a0_0 a0_1 a0_2 a0_3 l0_4 l0_5) else (waypointref32_Valid.j0 k (decide ((l0_5.length : Int) > 64)) a0_0 a0_1 a0_2 a0_3 l0_4 l0_5)))))))
theorem waypointref32_Valid.mono_l : ∀ k, (∀ y0 y1 y2 y3 y4 y5 y6, LeO (waypointref32_Valid.j0 k y0 y1 y2 y3 y4 y5 y6) (waypointref32_Valid.j0 (k + 1) y0 y1 y2 y3 y4 y5 y6)) ∧ (∀ y0 y1 y2 y3 y4 y5 y6, LeO (waypointref32_Valid.l0 k y0 y1 y2 y3 y4 y5 y6) (waypointref32_Valid.l0 (k + 1) y0 y1 y2 y3 y4 y5 y6)) ∧ (∀ y0 y1 y2 y3 y4 y5 y6 y7, LeO (waypointref32_Valid.j2 k y0 y1 y2 y3 y4 y5 y6 y7) (waypointref32_Valid.j2 (k + 1) y0 y1 y2 y3 y4 y5 y6 y7)) ∧ (∀ y0 y1 y2 y3 y4 y5 y6, LeO (waypointref32_Valid.l1 k y0 y1 y2 y3 y4 y5 y6) (waypointref32_Valid.l1 (k + 1) y0 y1 y2 y3 y4 y5 y6)) ∧ (∀ y0 y1 y2 y3 y4 y5 y6 y7, LeO (waypointref32_Valid.j4 k y0 y1 y2 y3 y4 y5 y6 y7) (waypointref32_Valid.j4 (k + 1) y0 y1 y2 y3 y4 y5 y6 y7))
 | 0 => ⟨fun _ _ _ _ _ _ _ r h => by simp [waypointref32_Valid.j0] at h, fun _ _ _ _ _ _ _ r h => by simp [waypointref32_Valid.l0] at h, fun _ _ _ _ _ _ _ _ r h => by simp [waypointref32_Valid.j2] at h, fun _ _ _ _ _ _ _ r h => by simp [waypointref32_Valid.l1] at h, fun _ _ _ _ _ _ _ _ r h => by simp [waypointref32_Valid.j4] at h⟩
 | k + 1 => by
  obtain ⟨ih0, ih1, ih2, ih3, ih4⟩ := waypointref32_Valid.mono_l k
  refine ⟨?_, ?_, ?_, ?_, ?_⟩
  ·intro y0 y1 y2 y3 y4 y5 y6
   unfold waypointref32_Valid.j0
   repeat' first
   | (with_reducible exact ih0 _ _ _ _ _ _ _)
   | (with_reducible exact ih1 _ _ _ _ _ _ _)
   | (with_reducible exact ih2 _ _ _ _ _ _ _ _)
   | (with_reducible exact ih3 _ _ _ _ _ _ _)
   | (with_reducible exact ih4 _ _ _ _ _ _ _ _)
   | (with_reducible exact waypointref32_Prefix.mono _ _ _)
   | (with_reducible exact LeO.refl _)
   | (with_reducible exact LeO.none _)
   | (with_reducible refine LeO.ite ?_ ?_)
   | (with_reducible refine LeO.bind ?_ (fun _ => ?_))
   | exact ih0 _ _ _ _ _ _ _
   | exact ih1 _ _ _ _ _ _ _
   | exact ih2 _ _ _ _ _ _ _ _
   | exact ih3 _ _ _ _ _ _ _
   | exact ih4 _ _ _ _ _ _ _ _
   | exact waypointref32_Prefix.mono _ _ _
   | exact LeO.none _
   | refine LeO.ite ?_ ?_
   | refine LeO.bind ?_ (fun _ => ?_)
  ·intro y0 y1 y2 y3 y4 y5 y6
   unfold waypointref32_Valid.l0
   repeat' first
   | (with_reducible exact ih0 _ _ _ _ _ _ _)
   | (with_reducible exact ih1 _ _ _ _ _ _ _)
   | (with_reducible exact ih2 _ _ _ _ _ _ _ _)
   | (with_reducible exact ih3 _ _ _ _ _ _ _)
   | (with_reducible exact ih4 _ _ _ _ _ _ _ _)
   | (with_reducible exact waypointref32_Prefix.mono _ _ _)
   | (with_reducible exact LeO.refl _)
   | (with_reducible exact LeO.none _)
   | (with_reducible refine LeO.ite ?_ ?_)
   | (with_reducible refine LeO.bind ?_ (fun _ => ?_))
   | exact ih0 _ _ _ _ _ _ _
   | exact ih1 _ _ _ _ _ _ _
   | exact ih2 _ _ _ _ _ _ _ _
   | exact ih3 _ _ _ _ _ _ _
   | exact ih4 _ _ _ _ _ _ _ _
   | exact waypointref32_Prefix.mono _ _ _
   | exact LeO.none _
   | refine LeO.ite ?_ ?_
   | refine LeO.bind ?_ (fun _ => ?_)
  ·intro y0 y1 y2 y3 y4 y5 y6 y7
   unfold waypointref32_Valid.j2
   repeat' first
   | (with_reducible exact ih0 _ _ _ _ _ _ _)
   | (with_reducible exact ih1 _ _ _ _ _ _ _)
   | (with_reducible exact ih2 _ _ _ _ _ _ _ _)
   | (with_reducible exact ih3 _ _ _ _ _ _ _)
   | (with_reducible exact ih4 _ _ _ _ _ _ _ _)
   | (with_reducible exact waypointref32_Prefix.mono _ _ _)
   | (with_reducible exact LeO.refl _)
   | (with_reducible exact LeO.none _)
   | (with_reducible refine LeO.ite ?_ ?_)
   | (with_reducible refine LeO.bind ?_ (fun _ => ?_))
   | exact ih0 _ _ _ _ _ _ _
   | exact ih1 _ _ _ _ _ _ _
   | exact ih2 _ _ _ _ _ _ _ _
   | exact ih3 _ _ _ _ _ _ _
   | exact ih4 _ _ _ _ _ _ _ _
   | exact waypointref32_Prefix.mono _ _ _
   | exact LeO.none _
   | refine LeO.ite ?_ ?_
   | refine LeO.bind ?_ (fun _ => ?_)
  ·intro y0 y1 y2 y3 y4 y5 y6
   unfold waypointref32_Valid.l1
   repeat' first
   | (with_reducible exact ih0 _ _ _ _ _ _ _)
   | (with_reducible exact ih1 _ _ _ _ _ _ _)
   | (with_reducible exact ih2 _ _ _ _ _ _ _ _)
   | (with_reducible exact ih3 _ _ _ _ _ _ _)
   | (with_reducible exact ih4 _ _ _ _ _ _ _ _)
   | (with_reducible exact waypointref32_Prefix.mono _ _ _)
   | (with_reducible exact LeO.refl _)
   | (with_reducible exact LeO.none _)
   | (with_reducible refine LeO.ite ?_ ?_)
   | (with_reducible refine LeO.bind ?_ (fun _ => ?_))
   | exact ih0 _ _ _ _ _ _ _
   | exact ih1 _ _ _ _ _ _ _
   | exact ih2 _ _ _ _ _ _ _ _
   | exact ih3 _ _ _ _ _ _ _
   | exact ih4 _ _ _ _ _ _ _ _
   | exact waypointref32_Prefix.mono _ _ _
   | exact LeO.none _
   | refine LeO.ite ?_ ?_
   | refine LeO.bind ?_ (fun _ => ?_)
  ·intro y0 y1 y2 y3 y4 y5 y6 y7
   unfold waypointref32_Valid.j4
   repeat' first
   | (with_reducible exact ih0 _ _ _ _ _ _ _)
   | (with_reducible exact ih1 _ _ _ _ _ _ _)
   | (with_reducible exact ih2 _ _ _ _ _ _ _ _)
   | (with_reducible exact ih3 _ _ _ _ _ _ _)
   | (with_reducible exact ih4 _ _ _ _ _ _ _ _)
   | (with_reducible exact waypointref32_Prefix.mono _ _ _)
   | (with_reducible exact LeO.refl _)
   | (with_reducible exact LeO.none _)
   | (with_reducible refine LeO.ite ?_ ?_)
   | (with_reducible refine LeO.bind ?_ (fun _ => ?_))
   | exact ih0 _ _ _ _ _ _ _
   | exact ih1 _ _ _ _ _ _ _
   | exact ih2 _ _ _ _ _ _ _ _
   | exact ih3 _ _ _ _ _ _ _
   | exact ih4 _ _ _ _ _ _ _ _
   | exact waypointref32_Prefix.mono _ _ _
   | exact LeO.none _
   | refine LeO.ite ?_ ?_
   | refine LeO.bind ?_ (fun _ => ?_)
theorem waypointref32_Valid.mono : ∀ a0 a1 a2 a3 a4 a5 k, LeO (waypointref32_Valid.f k a0 a1 a2 a3 a4 a5) (waypointref32_Valid.f (k + 1) a0 a1 a2 a3 a4 a5) := by
 intro a0 a1 a2 a3 a4 a5 k
 obtain ⟨ih0, ih1, ih2, ih3, ih4⟩ := waypointref32_Valid.mono_l k
 unfold waypointref32_Valid.f
 repeat' first
   | (with_reducible exact ih0 _ _ _ _ _ _ _)
   | (with_reducible exact ih1 _ _ _ _ _ _ _)
   | (with_reducible exact ih2 _ _ _ _ _ _ _ _)
   | (with_reducible exact ih3 _ _ _ _ _ _ _)
   | (with_reducible exact ih4 _ _ _ _ _ _ _ _)
   | (with_reducible exact waypointref32_Prefix.mono _ _ _)
   | (with_reducible exact LeO.refl _)
   | (with_reducible exact LeO.none _)
   | (with_reducible refine LeO.ite ?_ ?_)
   | (with_reducible refine LeO.bind ?_ (fun _ => ?_))
   | exact ih0 _ _ _ _ _ _ _
   | exact ih1 _ _ _ _ _ _ _
   | exact ih2 _ _ _ _ _ _ _ _
   | exact ih3 _ _ _ _ _ _ _
   | exact ih4 _ _ _ _ _ _ _ _
   | exact waypointref32_Prefix.mono _ _ _
   | exact LeO.none _
   | refine LeO.ite ?_ ?_
   | refine LeO.bind ?_ (fun _ => ?_)
set_option maxHeartbeats 8000000 in
set_option maxRecDepth 100000 in
theorem waypointref32_Valid.calls (k : Nat) (a0_0 : Int) (a0_1 : Int) (a0_2 : Int) (a0_3 : Bool) (A0_4 : Option Addr) (c0_4 : Nat) (l0_4 : List (S72)) (A0_5 : Option Addr) (c0_5 : Nat) (l0_5 : List (S76)) (r : Bool) (w : World) (hr0_4 : Kd.C k72 w A0_4 l0_4.length l0_4) (hc0_4 : l0_4.length ≤ c0_4) (hr0_5 : Kd.C k76 w A0_5 l0_5.length l0_5) (hc0_5 : l0_5.length ≤ c0_5) (h : waypointref32_Valid.f k a0_0 a0_1 a0_2 a0_3 l0_4 l0_5 = some r) :
  Calls Try.prog 23 #[.agg #[.int .i64 a0_0, .int .i64 a0_1, .int .i64 a0_2, .bool a0_3, .slice A0_4 l0_4.length c0_4, .slice A0_5 l0_5.length c0_5]] w fun e w' => e = .returned (.bool r) ∧ Below w.heap.size w w' := by
 have hu32 := Try.underlying32
 have hu72 := Try.underlying72
 have hu76 := Try.underlying76
 have HR0_4 := Aside0.mk hr0_4
 have HC0_4 := Aside0.mk hc0_4
 clear hr0_4 hc0_4
 have HR0_5 := Aside0.mk hr0_5
 have HC0_5 := Aside0.mk hc0_5
 clear hr0_5 hc0_5
 have HB := Aside0.mk (Below.refl w.heap.size w)
 have H : (if a0_0 < 0 then (waypointref32_Valid.j0 k true a0_0 a0_1 a0_2 a0_3 l0_4 l0_5) else (if a0_0 > 63 then (waypointref32_Valid.j0 k true a0_0 a0_1 a0_2 a0_3 l0_4 l0_5) else (if a0_1 < 1 then (waypointref32_Valid.j0 k true a0_0 a0_1 a0_2 a0_3 l0_4 l0_5) else (if a0_1 > 1073741824 then (waypointref32_Valid.j0 k true a0_0 a0_1 a0_2 a0_3 l0_4 l0_5) else (if a0_2 < 0 then (waypointref32_Valid.j0 k true a0_0 a0_1 a0_2 a0_3 l0_4 l0_5) else (if a0_2 > 3600 then (waypointref32_Valid.j0 k true a0_0 a0_1 a0_2 a0_3 l0_4 l0_5) else (if (l0_4.length : Int) > 256 then (waypointref32_Valid.j0 k true a0_0 a0_1 a0_2 a0_3 l0_4 l0_5) else (waypointref32_Valid.j0 k (decide ((l0_5.length : Int) > 64)) a0_0 a0_1 a0_2 a0_3 l0_4 l0_5)))))))) = some r := h
 clear h
 have HC2 := Aside0.mk H
 clear H
 go_enter Try.func23, Try.ntmps23
 go_upto_region 1 with (first | ((with_reducible refine gate_dst (N := 1) rfl ?_); (try (refine gate_guard (by rfl) ?_; dsimp only)); refine box_event ?hg (N := 1) ?hd (cs := #[.int .i64 a0_0, .int .i64 a0_1, .int .i64 a0_2, .bool a0_3, .slice A0_4 l0_4.length c0_4, .slice A0_5 l0_5.length c0_5]) (t := 32) ?hr ?_; (case hd => rfl); (case hg => rfl); (case hr => first | (go_simp; done) | (go_simp; rfl)); intro gb247 hg w3 hbox hb; have BK247 := Aside0.mk (hbox); have GW247 := gs_ HB hg; have GE247 := gs_ HB hg; replace HB := bs_ HB hb; clear hb hbox hg))
 (try simp only [Act.put, List.setIfInBounds_toArray, List.set_cons_zero, List.set_cons_succ])
 go_cut [46] (fun v46 wc => ∃ (kq : Nat) (x46_1 : Bool), v46 = .bool x46_1 ∧ Aside0 (waypointref32_Valid.j0 kq x46_1 a0_0 a0_1 a0_2 a0_3 l0_4 l0_5 = some r) ∧ Aside0 (kq ≤ k) ∧ Aside0 (wc.heap[gb247]? = some (.cells #[.int .i64 a0_0, .int .i64 a0_1, .int .i64 a0_2, .bool a0_3, (.slice A0_4 l0_4.length c0_4), (.slice A0_5 l0_5.length c0_5)] 32 (0, 0))) ∧ Aside0 (Below w.heap.size w wc))
 case first =>
  have H := HC2.out
  clear HC2
  by_cases c4 : a0_0 < 0
  ·rw [if_pos c4] at H
   have c4b0 : decide (a0_0 < 0) = true := decide_eq_true c4
   clear c4
   (first | rw [c4b0] | (simp only [i64_w, i32_w]; rw [c4b0]) | skip)
   have H' := Aside0.mk H
   clear H
   obtain ⟨hcz5_0, hcz5_1, hcz5_2, hcz5_3, hcz5_4, hcz5_5, hfz5_0, hfz5_1, hfz5_2, hfz5_3, hfz5_4, hfz5_5⟩ := c6_ BK247
   go_wp2
   repeat (go_quiet (fail); try go_wp2)
   go_meet
   case rel => exact ⟨_, (true), (by first | rfl | (simp; done) | (simp [*]; done)), H', ⟨by first | omega | exact Nat.le_refl _⟩, ⟨kb_ BK247⟩, ⟨by repeat (first | (with_reducible first | exact HB.out | apply bU | apply bS GE247.out) | exact HB.out)⟩⟩
  ·rw [if_neg c4] at H
   have c4b0 : decide (a0_0 < 0) = false := decide_eq_false c4
   clear c4
   (first | rw [c4b0] | (simp only [i64_w, i32_w]; rw [c4b0]) | skip)
   by_cases c6 : a0_0 > 63
   ·rw [if_pos c6] at H
    have c6b0 : decide (63 < a0_0) = true := decide_eq_true c6
    clear c6
    have H' := Aside0.mk H
    clear H
    obtain ⟨hcz7_0, hcz7_1, hcz7_2, hcz7_3, hcz7_4, hcz7_5, hfz7_0, hfz7_1, hfz7_2, hfz7_3, hfz7_4, hfz7_5⟩ := c6_ BK247
    go_wp2
    repeat (go_quiet (fail); try go_wp2)
    go_meet
    case rel => exact ⟨_, (true), (by first | rfl | (simp; done) | (simp [*]; done)), H', ⟨by first | omega | exact Nat.le_refl _⟩, ⟨kb_ BK247⟩, ⟨by repeat (first | (with_reducible first | exact HB.out | apply bU | apply bS GE247.out) | exact HB.out)⟩⟩
   ·rw [if_neg c6] at H
    have c6b0 : decide (63 < a0_0) = false := decide_eq_false c6
    clear c6
    by_cases c8 : a0_1 < 1
    ·rw [if_pos c8] at H
     have c8b0 : decide (a0_1 < 1) = true := decide_eq_true c8
     clear c8
     have H' := Aside0.mk H
     clear H
     obtain ⟨hcz9_0, hcz9_1, hcz9_2, hcz9_3, hcz9_4, hcz9_5, hfz9_0, hfz9_1, hfz9_2, hfz9_3, hfz9_4, hfz9_5⟩ := c6_ BK247
     go_wp2
     repeat (go_quiet (fail); try go_wp2)
     go_meet
     case rel => exact ⟨_, (true), (by first | rfl | (simp; done) | (simp [*]; done)), H', ⟨by first | omega | exact Nat.le_refl _⟩, ⟨kb_ BK247⟩, ⟨by repeat (first | (with_reducible first | exact HB.out | apply bU | apply bS GE247.out) | exact HB.out)⟩⟩
    ·rw [if_neg c8] at H
     have c8b0 : decide (a0_1 < 1) = false := decide_eq_false c8
     clear c8
     by_cases c10 : a0_1 > 1073741824
     ·rw [if_pos c10] at H
      have c10b0 : decide (1073741824 < a0_1) = true := decide_eq_true c10
      clear c10
      have H' := Aside0.mk H
      clear H
      obtain ⟨hcz11_0, hcz11_1, hcz11_2, hcz11_3, hcz11_4, hcz11_5, hfz11_0, hfz11_1, hfz11_2, hfz11_3, hfz11_4, hfz11_5⟩ := c6_ BK247
      go_wp2
      repeat (go_quiet (fail); try go_wp2)
      go_meet
      case rel => exact ⟨_, (true), (by first | rfl | (simp; done) | (simp [*]; done)), H', ⟨by first | omega | exact Nat.le_refl _⟩, ⟨kb_ BK247⟩, ⟨by repeat (first | (with_reducible first | exact HB.out | apply bU | apply bS GE247.out) | exact HB.out)⟩⟩
     ·rw [if_neg c10] at H
      have c10b0 : decide (1073741824 < a0_1) = false := decide_eq_false c10
      clear c10
      by_cases c12 : a0_2 < 0
      ·rw [if_pos c12] at H
       have c12b0 : decide (a0_2 < 0) = true := decide_eq_true c12
       clear c12
       have H' := Aside0.mk H
       clear H
       obtain ⟨hcz13_0, hcz13_1, hcz13_2, hcz13_3, hcz13_4, hcz13_5, hfz13_0, hfz13_1, hfz13_2, hfz13_3, hfz13_4, hfz13_5⟩ := c6_ BK247
       go_wp2
       repeat (go_quiet (fail); try go_wp2)
       go_meet
       case rel => exact ⟨_, (true), (by first | rfl | (simp; done) | (simp [*]; done)), H', ⟨by first | omega | exact Nat.le_refl _⟩, ⟨kb_ BK247⟩, ⟨by repeat (first | (with_reducible first | exact HB.out | apply bU | apply bS GE247.out) | exact HB.out)⟩⟩
      ·rw [if_neg c12] at H
       have c12b0 : decide (a0_2 < 0) = false := decide_eq_false c12
       clear c12
       by_cases c14 : a0_2 > 3600
       ·rw [if_pos c14] at H
        have c14b0 : decide (3600 < a0_2) = true := decide_eq_true c14
        clear c14
        have H' := Aside0.mk H
        clear H
        obtain ⟨hcz15_0, hcz15_1, hcz15_2, hcz15_3, hcz15_4, hcz15_5, hfz15_0, hfz15_1, hfz15_2, hfz15_3, hfz15_4, hfz15_5⟩ := c6_ BK247
        go_wp2
        repeat (go_quiet (fail); try go_wp2)
        go_meet
        case rel => exact ⟨_, (true), (by first | rfl | (simp; done) | (simp [*]; done)), H', ⟨by first | omega | exact Nat.le_refl _⟩, ⟨kb_ BK247⟩, ⟨by repeat (first | (with_reducible first | exact HB.out | apply bU | apply bS GE247.out) | exact HB.out)⟩⟩
       ·rw [if_neg c14] at H
        have c14b0 : decide (3600 < a0_2) = false := decide_eq_false c14
        clear c14
        by_cases c16 : (l0_4.length : Int) > 256
        ·rw [if_pos c16] at H
         have c16b0 : decide (256 < (l0_4.length : Int)) = true := decide_eq_true c16
         have c16b1 : decide (256 < l0_4.length) = true := decide_eq_true (by omega)
         clear c16
         have H' := Aside0.mk H
         clear H
         obtain ⟨hcz17_0, hcz17_1, hcz17_2, hcz17_3, hcz17_4, hcz17_5, hfz17_0, hfz17_1, hfz17_2, hfz17_3, hfz17_4, hfz17_5⟩ := c6_ BK247
         go_wp2
         repeat (go_quiet (fail); try go_wp2)
         go_meet
         case rel => exact ⟨_, (true), (by first | rfl | (simp; done) | (simp [*]; done)), H', ⟨by first | omega | exact Nat.le_refl _⟩, ⟨kb_ BK247⟩, ⟨by repeat (first | (with_reducible first | exact HB.out | apply bU | apply bS GE247.out) | exact HB.out)⟩⟩
        ·rw [if_neg c16] at H
         have c16b0 : decide (256 < (l0_4.length : Int)) = false := decide_eq_false c16
         have c16b1 : decide (256 < l0_4.length) = false := decide_eq_false (by omega)
         clear c16
         have H' := Aside0.mk H
         clear H
         obtain ⟨hcz18_0, hcz18_1, hcz18_2, hcz18_3, hcz18_4, hcz18_5, hfz18_0, hfz18_1, hfz18_2, hfz18_3, hfz18_4, hfz18_5⟩ := c6_ BK247
         go_wp2
         repeat (go_quiet (fail); try go_wp2)
         go_meet
         case rel => exact ⟨_, (decide ((l0_5.length : Int) > 64)), (by first | rfl | (simp; done) | (simp [*]; done)), H', ⟨by first | omega | exact Nat.le_refl _⟩, ⟨kb_ BK247⟩, ⟨by repeat (first | (with_reducible first | exact HB.out | apply bU | apply bS GE247.out) | exact HB.out)⟩⟩
 case rest =>
  clear HC2
  obtain ⟨kq, x46_1, rfl, HA, HJ1, BK247, HB⟩ := hcut
  cases kq with
  | zero => exact absurd HA.out (by simp [waypointref32_Valid.j0])
  | succ kj1 =>
   have H := HA.out
   clear HA
   simp only [waypointref32_Valid.j0] at H
   by_cases c19 : x46_1 = true
   ·subst c19
    have H1 : (some false) = some r := by rw [if_pos rfl] at H; exact H
    clear H
    have H := H1
    clear H1
    obtain rfl := Option.some.inj H
    go_wp2
    repeat (go_quiet (fail); try go_wp2)
    go_ret
    exact ⟨by first | rfl | (simp [errW_none, errW_some] <;> rfl) | (simp [*, errW_none, errW_some] <;> rfl), by repeat (first | (with_reducible first | exact HB.out | apply bU | apply bS GE247.out) | exact HB.out)⟩
   ·replace c19 := Bool.eq_false_iff.mpr c19
    subst c19
    have H1 : (waypointref32_Valid.l0 kj1 0 a0_0 a0_1 a0_2 a0_3 l0_4 l0_5) = some r := by rw [if_neg (show ¬ (false = true) by decide)] at H; exact H
    clear H
    have H := H1
    clear H1
    have H' := Aside0.mk H
    clear H
    go_wp2
    repeat (go_quiet (fail); try go_wp2)
    go_loopg [3] kj1 (fun kq v3 w' => ∃ (x3_2 : Int), v3 = .int .i64 x3_2 ∧ Aside0 (waypointref32_Valid.l0 kq x3_2 a0_0 a0_1 a0_2 a0_3 l0_4 l0_5 = some r) ∧ Aside0 (kq ≤ kj1) ∧ Aside0 (w'.heap[gb247]? = some (.cells #[.int .i64 a0_0, .int .i64 a0_1, .int .i64 a0_2, .bool a0_3, (.slice A0_4 l0_4.length c0_4), (.slice A0_5 l0_5.length c0_5)] 32 (0, 0))) ∧ Aside0 (Below w.heap.size w w'))
    case atStart => exact ⟨(0), (by first | rfl | (simp; done) | (simp [*]; done)), H', ⟨Nat.le_refl _⟩, ⟨kb_ BK247⟩, ⟨by repeat (first | (with_reducible first | exact HB.out | apply bU | apply bS GE247.out) | exact HB.out)⟩⟩
    case round =>
     clear H'
     (try clear c19)
     obtain ⟨x3_2, rfl, HA, HK2, BK247, HB⟩ := hrel
     cases gk with
     | zero => exact absurd HA.out (by simp [waypointref32_Valid.l0])
     | succ k2 =>
      have H := HA.out
      clear HA
      simp only [waypointref32_Valid.l0] at H
      by_cases c20 : x3_2 < (l0_4.length : Int)
      ·rw [if_pos c20] at H
       have c20b0 : decide (x3_2 < (l0_4.length : Int)) = true := decide_eq_true c20
       clear c20
       by_cases c21 : 0 ≤ x3_2
       ·rw [if_pos c21] at H
        have c21b0 : decide (0 ≤ x3_2) = true := decide_eq_true c21
        clear c21
        have HC22 := Aside0.mk H
        clear H
        obtain ⟨hcz23_0, hcz23_1, hcz23_2, hcz23_3, hcz23_4, hcz23_5, hfz23_0, hfz23_1, hfz23_2, hfz23_3, hfz23_4, hfz23_5⟩ := c6_ BK247
        have p248 : 0 ≤ (x3_2 : Int) := of_decide_eq_true (by first | (with_reducible assumption) | assumption)
        have q248 : x3_2 < (l0_4.length : Int) := of_decide_eq_true (by first | (with_reducible assumption) | assumption)
        obtain ⟨ad248, e248, hx248_0, hx248_1, hx248_2⟩ := at_T72 HR0_4.out x3_2 p248 q248
        cases e248
        replace hx248_0 := (HB.out.cell (World.block_lt_of_cell? w _ hx248_0)).trans hx248_0
        replace hx248_1 := (HB.out.cell (World.block_lt_of_cell? w _ hx248_1)).trans hx248_1
        replace hx248_2 := (HB.out.cell (World.block_lt_of_cell? w _ hx248_2)).trans hx248_2
        replace p248 := eq_true p248
        replace q248 := eq_true q248
        go_upto_region 7 with (first | ((with_reducible refine gate_dst (N := 4) rfl ?_); (try (refine gate_guard (by rfl) ?_; dsimp only)); refine box_event ?hg (N := 4) ?hd (cs := #[.int .i64 0, .int .i64 0, .int .i64 0]) (t := 72) ?hr ?_; (case hd => rfl); (case hg => rfl); (case hr => first | (go_simp; done) | (go_simp; rfl)); intro gb249 hg w24 hbox hb; have BK249 := Aside0.mk (hbox); have GW249 := Aside0.mk ((by rw [hg]; exact (below_size (by repeat (first | (with_reducible first | exact HB.out | apply bU | apply bS GE247.out) | exact HB.out))) : w.heap.size ≤ gb249)); have GE249 := Aside0.mk ((by rw [hg]; exact (below_size (by repeat (first | (with_reducible first | exact HB.out | apply bU | apply bS GE247.out) | exact HB.out))) : w.heap.size ≤ gb249)); have NB247_249 := nl_ BK247 hg; have NB249_247 := ng_ BK247 hg; replace BK247 := bb_ BK247 hb; replace HB := Aside0.mk (below_step (by repeat (first | (with_reducible first | exact HB.out | apply bU | apply bS GE247.out) | exact HB.out)) hb); clear hb hbox hg; have hnb25 := NB249_247.out; have hnc25 := NB247_249.out; obtain ⟨hcz26_0, hcz26_1, hcz26_2, hfz26_0, hfz26_1, hfz26_2⟩ := c3_ BK249))
        (try simp only [Act.put, List.setIfInBounds_toArray, List.set_cons_zero, List.set_cons_succ])
        go_cut [109] (fun v109 wc => ∃ (kq : Nat) (x109_21 : Bool), v109 = .bool x109_21 ∧ Aside0 (waypointref32_Valid.j2 kq x3_2 x109_21 a0_0 a0_1 a0_2 a0_3 l0_4 l0_5 = some r) ∧ Aside0 (kq ≤ k2) ∧ Aside0 (wc.heap[gb247]? = some (.cells #[.int .i64 a0_0, .int .i64 a0_1, .int .i64 a0_2, .bool a0_3, (.slice (some ad248) l0_4.length c0_4), (.slice A0_5 l0_5.length c0_5)] 32 (0, 0))) ∧ Aside0 (wc.heap[gb249]? = some (.cells #[.int .i64 ((rd_T72 l0_4 x3_2).f0), .int .i64 ((rd_T72 l0_4 x3_2).f1), .int .i64 ((rd_T72 l0_4 x3_2).f2)] 72 (0, 0))) ∧ Aside0 (Below w.heap.size w wc))
        case first =>
         have H := HC22.out
         clear HC22
         by_cases c27 : ((rd_T72 l0_4 x3_2).f1) < 0
         ·rw [if_pos c27] at H
          have c27b0 : decide (((rd_T72 l0_4 x3_2).f1) < 0) = true := decide_eq_true c27
          clear c27
          (first | rw [c27b0] | (simp only [i64_w, i32_w]; rw [c27b0]) | skip)
          have H' := Aside0.mk H
          clear H
          have hnb28 := NB249_247.out
          have hnc28 := NB247_249.out
          obtain ⟨hcz29_0, hcz29_1, hcz29_2, hfz29_0, hfz29_1, hfz29_2⟩ := c3_ BK249
          go_wp2
          repeat (go_quiet (fail); try go_wp2)
          go_meet
          case rel => exact ⟨_, (true), (by first | rfl | (simp; done) | (simp [*]; done)), H', ⟨by have := HJ1.out; have := HK2.out; first | omega | exact Nat.le_refl _⟩, ⟨by (with_reducible repeat (first | refine blk_drewN ?_ _ | refine blk_drew ?_ | refine blk_alloc ?_ _)); refine blk_far ?_ NB247_249.out _; (with_reducible repeat (first | refine blk_drewN ?_ _ | refine blk_drew ?_ | refine blk_alloc ?_ _)); refine blk_far ?_ NB247_249.out _; (with_reducible repeat (first | refine blk_drewN ?_ _ | refine blk_drew ?_ | refine blk_alloc ?_ _)); refine blk_far ?_ NB247_249.out _; (with_reducible repeat (first | refine blk_drewN ?_ _ | refine blk_drew ?_ | refine blk_alloc ?_ _)); exact BK247.out⟩, ⟨by (with_reducible repeat (first | refine blk_drewN ?_ _ | refine blk_drew ?_ | refine blk_alloc ?_ _)); refine blk_put (cs := #[.int .i64 ((rd_T72 l0_4 x3_2).f0), .int .i64 ((rd_T72 l0_4 x3_2).f1), .int .i64 0]) ?_ 2 _ rfl; (with_reducible repeat (first | refine blk_drewN ?_ _ | refine blk_drew ?_ | refine blk_alloc ?_ _)); refine blk_put (cs := #[.int .i64 ((rd_T72 l0_4 x3_2).f0), .int .i64 0, .int .i64 0]) ?_ 1 _ rfl; (with_reducible repeat (first | refine blk_drewN ?_ _ | refine blk_drew ?_ | refine blk_alloc ?_ _)); refine blk_put (cs := #[.int .i64 0, .int .i64 0, .int .i64 0]) ?_ 0 _ rfl; (with_reducible repeat (first | refine blk_drewN ?_ _ | refine blk_drew ?_ | refine blk_alloc ?_ _)); exact BK249.out⟩, ⟨by repeat (first | (with_reducible first | exact HB.out | apply bU | apply bS GE247.out | apply bS GE249.out) | exact HB.out)⟩⟩
         ·rw [if_neg c27] at H
          have c27b0 : decide (((rd_T72 l0_4 x3_2).f1) < 0) = false := decide_eq_false c27
          clear c27
          (first | rw [c27b0] | (simp only [i64_w, i32_w]; rw [c27b0]) | skip)
          by_cases c30 : ((rd_T72 l0_4 x3_2).f1) > 255
          ·rw [if_pos c30] at H
           have c30b0 : decide (255 < ((rd_T72 l0_4 x3_2).f1)) = true := decide_eq_true c30
           clear c30
           have H' := Aside0.mk H
           clear H
           have hnb31 := NB249_247.out
           have hnc31 := NB247_249.out
           obtain ⟨hcz32_0, hcz32_1, hcz32_2, hfz32_0, hfz32_1, hfz32_2⟩ := c3_ BK249
           go_wp2
           repeat (go_quiet (fail); try go_wp2)
           go_meet
           case rel => exact ⟨_, (true), (by first | rfl | (simp; done) | (simp [*]; done)), H', ⟨by have := HJ1.out; have := HK2.out; first | omega | exact Nat.le_refl _⟩, ⟨by (with_reducible repeat (first | refine blk_drewN ?_ _ | refine blk_drew ?_ | refine blk_alloc ?_ _)); refine blk_far ?_ NB247_249.out _; (with_reducible repeat (first | refine blk_drewN ?_ _ | refine blk_drew ?_ | refine blk_alloc ?_ _)); refine blk_far ?_ NB247_249.out _; (with_reducible repeat (first | refine blk_drewN ?_ _ | refine blk_drew ?_ | refine blk_alloc ?_ _)); refine blk_far ?_ NB247_249.out _; (with_reducible repeat (first | refine blk_drewN ?_ _ | refine blk_drew ?_ | refine blk_alloc ?_ _)); exact BK247.out⟩, ⟨by (with_reducible repeat (first | refine blk_drewN ?_ _ | refine blk_drew ?_ | refine blk_alloc ?_ _)); refine blk_put (cs := #[.int .i64 ((rd_T72 l0_4 x3_2).f0), .int .i64 ((rd_T72 l0_4 x3_2).f1), .int .i64 0]) ?_ 2 _ rfl; (with_reducible repeat (first | refine blk_drewN ?_ _ | refine blk_drew ?_ | refine blk_alloc ?_ _)); refine blk_put (cs := #[.int .i64 ((rd_T72 l0_4 x3_2).f0), .int .i64 0, .int .i64 0]) ?_ 1 _ rfl; (with_reducible repeat (first | refine blk_drewN ?_ _ | refine blk_drew ?_ | refine blk_alloc ?_ _)); refine blk_put (cs := #[.int .i64 0, .int .i64 0, .int .i64 0]) ?_ 0 _ rfl; (with_reducible repeat (first | refine blk_drewN ?_ _ | refine blk_drew ?_ | refine blk_alloc ?_ _)); exact BK249.out⟩, ⟨by repeat (first | (with_reducible first | exact HB.out | apply bU | apply bS GE247.out | apply bS GE249.out) | exact HB.out)⟩⟩
          ·rw [if_neg c30] at H
           have c30b0 : decide (255 < ((rd_T72 l0_4 x3_2).f1)) = false := decide_eq_false c30
           clear c30
           by_cases c33 : ((rd_T72 l0_4 x3_2).f0) < 0
           ·rw [if_pos c33] at H
            have c33b0 : decide (((rd_T72 l0_4 x3_2).f0) < 0) = true := decide_eq_true c33
            clear c33
            have H' := Aside0.mk H
            clear H
            have hnb34 := NB249_247.out
            have hnc34 := NB247_249.out
            obtain ⟨hcz35_0, hcz35_1, hcz35_2, hfz35_0, hfz35_1, hfz35_2⟩ := c3_ BK249
            go_wp2
            repeat (go_quiet (fail); try go_wp2)
            go_meet
            case rel => exact ⟨_, (true), (by first | rfl | (simp; done) | (simp [*]; done)), H', ⟨by have := HJ1.out; have := HK2.out; first | omega | exact Nat.le_refl _⟩, ⟨by (with_reducible repeat (first | refine blk_drewN ?_ _ | refine blk_drew ?_ | refine blk_alloc ?_ _)); refine blk_far ?_ NB247_249.out _; (with_reducible repeat (first | refine blk_drewN ?_ _ | refine blk_drew ?_ | refine blk_alloc ?_ _)); refine blk_far ?_ NB247_249.out _; (with_reducible repeat (first | refine blk_drewN ?_ _ | refine blk_drew ?_ | refine blk_alloc ?_ _)); refine blk_far ?_ NB247_249.out _; (with_reducible repeat (first | refine blk_drewN ?_ _ | refine blk_drew ?_ | refine blk_alloc ?_ _)); exact BK247.out⟩, ⟨by (with_reducible repeat (first | refine blk_drewN ?_ _ | refine blk_drew ?_ | refine blk_alloc ?_ _)); refine blk_put (cs := #[.int .i64 ((rd_T72 l0_4 x3_2).f0), .int .i64 ((rd_T72 l0_4 x3_2).f1), .int .i64 0]) ?_ 2 _ rfl; (with_reducible repeat (first | refine blk_drewN ?_ _ | refine blk_drew ?_ | refine blk_alloc ?_ _)); refine blk_put (cs := #[.int .i64 ((rd_T72 l0_4 x3_2).f0), .int .i64 0, .int .i64 0]) ?_ 1 _ rfl; (with_reducible repeat (first | refine blk_drewN ?_ _ | refine blk_drew ?_ | refine blk_alloc ?_ _)); refine blk_put (cs := #[.int .i64 0, .int .i64 0, .int .i64 0]) ?_ 0 _ rfl; (with_reducible repeat (first | refine blk_drewN ?_ _ | refine blk_drew ?_ | refine blk_alloc ?_ _)); exact BK249.out⟩, ⟨by repeat (first | (with_reducible first | exact HB.out | apply bU | apply bS GE247.out | apply bS GE249.out) | exact HB.out)⟩⟩
           ·rw [if_neg c33] at H
            have c33b0 : decide (((rd_T72 l0_4 x3_2).f0) < 0) = false := decide_eq_false c33
            clear c33
            by_cases c36 : ((rd_T72 l0_4 x3_2).f0) > 63
            ·rw [if_pos c36] at H
             have c36b0 : decide (63 < ((rd_T72 l0_4 x3_2).f0)) = true := decide_eq_true c36
             clear c36
             have H' := Aside0.mk H
             clear H
             have hnb37 := NB249_247.out
             have hnc37 := NB247_249.out
             obtain ⟨hcz38_0, hcz38_1, hcz38_2, hfz38_0, hfz38_1, hfz38_2⟩ := c3_ BK249
             go_wp2
             repeat (go_quiet (fail); try go_wp2)
             go_meet
             case rel => exact ⟨_, (true), (by first | rfl | (simp; done) | (simp [*]; done)), H', ⟨by have := HJ1.out; have := HK2.out; first | omega | exact Nat.le_refl _⟩, ⟨by (with_reducible repeat (first | refine blk_drewN ?_ _ | refine blk_drew ?_ | refine blk_alloc ?_ _)); refine blk_far ?_ NB247_249.out _; (with_reducible repeat (first | refine blk_drewN ?_ _ | refine blk_drew ?_ | refine blk_alloc ?_ _)); refine blk_far ?_ NB247_249.out _; (with_reducible repeat (first | refine blk_drewN ?_ _ | refine blk_drew ?_ | refine blk_alloc ?_ _)); refine blk_far ?_ NB247_249.out _; (with_reducible repeat (first | refine blk_drewN ?_ _ | refine blk_drew ?_ | refine blk_alloc ?_ _)); exact BK247.out⟩, ⟨by (with_reducible repeat (first | refine blk_drewN ?_ _ | refine blk_drew ?_ | refine blk_alloc ?_ _)); refine blk_put (cs := #[.int .i64 ((rd_T72 l0_4 x3_2).f0), .int .i64 ((rd_T72 l0_4 x3_2).f1), .int .i64 0]) ?_ 2 _ rfl; (with_reducible repeat (first | refine blk_drewN ?_ _ | refine blk_drew ?_ | refine blk_alloc ?_ _)); refine blk_put (cs := #[.int .i64 ((rd_T72 l0_4 x3_2).f0), .int .i64 0, .int .i64 0]) ?_ 1 _ rfl; (with_reducible repeat (first | refine blk_drewN ?_ _ | refine blk_drew ?_ | refine blk_alloc ?_ _)); refine blk_put (cs := #[.int .i64 0, .int .i64 0, .int .i64 0]) ?_ 0 _ rfl; (with_reducible repeat (first | refine blk_drewN ?_ _ | refine blk_drew ?_ | refine blk_alloc ?_ _)); exact BK249.out⟩, ⟨by repeat (first | (with_reducible first | exact HB.out | apply bU | apply bS GE247.out | apply bS GE249.out) | exact HB.out)⟩⟩
            ·rw [if_neg c36] at H
             have c36b0 : decide (63 < ((rd_T72 l0_4 x3_2).f0)) = false := decide_eq_false c36
             clear c36
             by_cases c39 : ((rd_T72 l0_4 x3_2).f0) = a0_0
             ·rw [if_pos c39] at H
              have c39b0 : (((rd_T72 l0_4 x3_2).f0) == a0_0) = true := beq_iff_eq.mpr c39
              have c39b1 : (((rd_T72 l0_4 x3_2).f0) != a0_0) = false := bne_eq_false_iff_eq.mpr c39
              clear c39
              have H' := Aside0.mk H
              clear H
              have hnb40 := NB249_247.out
              have hnc40 := NB247_249.out
              obtain ⟨hcz41_0, hcz41_1, hcz41_2, hfz41_0, hfz41_1, hfz41_2⟩ := c3_ BK249
              obtain ⟨hcz42_0, hcz42_1, hcz42_2, hcz42_3, hcz42_4, hcz42_5, hfz42_0, hfz42_1, hfz42_2, hfz42_3, hfz42_4, hfz42_5⟩ := c6_ BK247
              go_wp2
              repeat (go_quiet (fail); try go_wp2)
              go_meet
              case rel => exact ⟨_, (true), (by first | rfl | (simp; done) | (simp [*]; done)), H', ⟨by have := HJ1.out; have := HK2.out; first | omega | exact Nat.le_refl _⟩, ⟨by (with_reducible repeat (first | refine blk_drewN ?_ _ | refine blk_drew ?_ | refine blk_alloc ?_ _)); refine blk_far ?_ NB247_249.out _; (with_reducible repeat (first | refine blk_drewN ?_ _ | refine blk_drew ?_ | refine blk_alloc ?_ _)); refine blk_far ?_ NB247_249.out _; (with_reducible repeat (first | refine blk_drewN ?_ _ | refine blk_drew ?_ | refine blk_alloc ?_ _)); refine blk_far ?_ NB247_249.out _; (with_reducible repeat (first | refine blk_drewN ?_ _ | refine blk_drew ?_ | refine blk_alloc ?_ _)); exact BK247.out⟩, ⟨by (with_reducible repeat (first | refine blk_drewN ?_ _ | refine blk_drew ?_ | refine blk_alloc ?_ _)); refine blk_put (cs := #[.int .i64 ((rd_T72 l0_4 x3_2).f0), .int .i64 ((rd_T72 l0_4 x3_2).f1), .int .i64 0]) ?_ 2 _ rfl; (with_reducible repeat (first | refine blk_drewN ?_ _ | refine blk_drew ?_ | refine blk_alloc ?_ _)); refine blk_put (cs := #[.int .i64 ((rd_T72 l0_4 x3_2).f0), .int .i64 0, .int .i64 0]) ?_ 1 _ rfl; (with_reducible repeat (first | refine blk_drewN ?_ _ | refine blk_drew ?_ | refine blk_alloc ?_ _)); refine blk_put (cs := #[.int .i64 0, .int .i64 0, .int .i64 0]) ?_ 0 _ rfl; (with_reducible repeat (first | refine blk_drewN ?_ _ | refine blk_drew ?_ | refine blk_alloc ?_ _)); exact BK249.out⟩, ⟨by repeat (first | (with_reducible first | exact HB.out | apply bU | apply bS GE247.out | apply bS GE249.out) | exact HB.out)⟩⟩
             ·rw [if_neg c39] at H
              have c39b0 : (((rd_T72 l0_4 x3_2).f0) == a0_0) = false := beq_eq_false_iff_ne.mpr c39
              have c39b1 : (((rd_T72 l0_4 x3_2).f0) != a0_0) = true := bne_iff_ne.mpr c39
              by_cases c43 : ((rd_T72 l0_4 x3_2).f2) < 1
              ·rw [if_pos c43] at H
               have c43b0 : decide (((rd_T72 l0_4 x3_2).f2) < 1) = true := decide_eq_true c43
               clear c43
               have H' := Aside0.mk H
               clear H
               have hnb44 := NB249_247.out
               have hnc44 := NB247_249.out
               obtain ⟨hcz45_0, hcz45_1, hcz45_2, hfz45_0, hfz45_1, hfz45_2⟩ := c3_ BK249
               obtain ⟨hcz46_0, hcz46_1, hcz46_2, hcz46_3, hcz46_4, hcz46_5, hfz46_0, hfz46_1, hfz46_2, hfz46_3, hfz46_4, hfz46_5⟩ := c6_ BK247
               go_wp2
               repeat (go_quiet (fail); try go_wp2)
               go_meet
               case rel => exact ⟨_, (true), (by first | rfl | (simp; done) | (simp [*]; done)), H', ⟨by have := HJ1.out; have := HK2.out; first | omega | exact Nat.le_refl _⟩, ⟨by (with_reducible repeat (first | refine blk_drewN ?_ _ | refine blk_drew ?_ | refine blk_alloc ?_ _)); refine blk_far ?_ NB247_249.out _; (with_reducible repeat (first | refine blk_drewN ?_ _ | refine blk_drew ?_ | refine blk_alloc ?_ _)); refine blk_far ?_ NB247_249.out _; (with_reducible repeat (first | refine blk_drewN ?_ _ | refine blk_drew ?_ | refine blk_alloc ?_ _)); refine blk_far ?_ NB247_249.out _; (with_reducible repeat (first | refine blk_drewN ?_ _ | refine blk_drew ?_ | refine blk_alloc ?_ _)); exact BK247.out⟩, ⟨by (with_reducible repeat (first | refine blk_drewN ?_ _ | refine blk_drew ?_ | refine blk_alloc ?_ _)); refine blk_put (cs := #[.int .i64 ((rd_T72 l0_4 x3_2).f0), .int .i64 ((rd_T72 l0_4 x3_2).f1), .int .i64 0]) ?_ 2 _ rfl; (with_reducible repeat (first | refine blk_drewN ?_ _ | refine blk_drew ?_ | refine blk_alloc ?_ _)); refine blk_put (cs := #[.int .i64 ((rd_T72 l0_4 x3_2).f0), .int .i64 0, .int .i64 0]) ?_ 1 _ rfl; (with_reducible repeat (first | refine blk_drewN ?_ _ | refine blk_drew ?_ | refine blk_alloc ?_ _)); refine blk_put (cs := #[.int .i64 0, .int .i64 0, .int .i64 0]) ?_ 0 _ rfl; (with_reducible repeat (first | refine blk_drewN ?_ _ | refine blk_drew ?_ | refine blk_alloc ?_ _)); exact BK249.out⟩, ⟨by repeat (first | (with_reducible first | exact HB.out | apply bU | apply bS GE247.out | apply bS GE249.out) | exact HB.out)⟩⟩
              ·rw [if_neg c43] at H
               have c43b0 : decide (((rd_T72 l0_4 x3_2).f2) < 1) = false := decide_eq_false c43
               clear c43
               by_cases c47 : ((rd_T72 l0_4 x3_2).f2) > 65535
               ·rw [if_pos c47] at H
                have c47b0 : decide (65535 < ((rd_T72 l0_4 x3_2).f2)) = true := decide_eq_true c47
                clear c47
                have H' := Aside0.mk H
                clear H
                have hnb48 := NB249_247.out
                have hnc48 := NB247_249.out
                obtain ⟨hcz49_0, hcz49_1, hcz49_2, hfz49_0, hfz49_1, hfz49_2⟩ := c3_ BK249
                obtain ⟨hcz50_0, hcz50_1, hcz50_2, hcz50_3, hcz50_4, hcz50_5, hfz50_0, hfz50_1, hfz50_2, hfz50_3, hfz50_4, hfz50_5⟩ := c6_ BK247
                go_wp2
                repeat (go_quiet (fail); try go_wp2)
                go_meet
                case rel => exact ⟨_, (true), (by first | rfl | (simp; done) | (simp [*]; done)), H', ⟨by have := HJ1.out; have := HK2.out; first | omega | exact Nat.le_refl _⟩, ⟨by (with_reducible repeat (first | refine blk_drewN ?_ _ | refine blk_drew ?_ | refine blk_alloc ?_ _)); refine blk_far ?_ NB247_249.out _; (with_reducible repeat (first | refine blk_drewN ?_ _ | refine blk_drew ?_ | refine blk_alloc ?_ _)); refine blk_far ?_ NB247_249.out _; (with_reducible repeat (first | refine blk_drewN ?_ _ | refine blk_drew ?_ | refine blk_alloc ?_ _)); refine blk_far ?_ NB247_249.out _; (with_reducible repeat (first | refine blk_drewN ?_ _ | refine blk_drew ?_ | refine blk_alloc ?_ _)); exact BK247.out⟩, ⟨by (with_reducible repeat (first | refine blk_drewN ?_ _ | refine blk_drew ?_ | refine blk_alloc ?_ _)); refine blk_put (cs := #[.int .i64 ((rd_T72 l0_4 x3_2).f0), .int .i64 ((rd_T72 l0_4 x3_2).f1), .int .i64 0]) ?_ 2 _ rfl; (with_reducible repeat (first | refine blk_drewN ?_ _ | refine blk_drew ?_ | refine blk_alloc ?_ _)); refine blk_put (cs := #[.int .i64 ((rd_T72 l0_4 x3_2).f0), .int .i64 0, .int .i64 0]) ?_ 1 _ rfl; (with_reducible repeat (first | refine blk_drewN ?_ _ | refine blk_drew ?_ | refine blk_alloc ?_ _)); refine blk_put (cs := #[.int .i64 0, .int .i64 0, .int .i64 0]) ?_ 0 _ rfl; (with_reducible repeat (first | refine blk_drewN ?_ _ | refine blk_drew ?_ | refine blk_alloc ?_ _)); exact BK249.out⟩, ⟨by repeat (first | (with_reducible first | exact HB.out | apply bU | apply bS GE247.out | apply bS GE249.out) | exact HB.out)⟩⟩
               ·rw [if_neg c47] at H
                have c47b0 : decide (65535 < ((rd_T72 l0_4 x3_2).f2)) = false := decide_eq_false c47
                clear c47
                by_cases c51 : x3_2 > 0
                ·rw [if_pos c51] at H
                 have c51b0 : decide (0 < x3_2) = true := decide_eq_true c51
                 clear c51
                 obtain ⟨ji52, hji52⟩ : ∃ j_ : Int, (wrap64 (x3_2 - 1)) = j_ := ⟨_, rfl⟩
                 replace H : (if 0 ≤ (ji52) then (if (ji52) < (l0_4.length : Int) then (waypointref32_Valid.j2 k2 x3_2 (decide (((rd_T72 l0_4 x3_2).f1) ≤ ((rd_T72 l0_4 (ji52)).f1))) a0_0 a0_1 a0_2 a0_3 l0_4 l0_5) else (none)) else (none)) = some r := by first | (rw [hji52] at H; exact H) | (simp only [hji52] at H ⊢; exact H)
                 have hji52w : (IntKind.i64.wrap (x3_2 - 1)) = ji52 := (i64_w _).trans hji52
                 by_cases c53 : 0 ≤ (ji52)
                 ·rw [if_pos c53] at H
                  have c53b0 : decide (0 ≤ (ji52)) = true := decide_eq_true c53
                  clear c53
                  by_cases c54 : (ji52) < (l0_4.length : Int)
                  ·rw [if_pos c54] at H
                   have c54b0 : decide ((ji52) < (l0_4.length : Int)) = true := decide_eq_true c54
                   clear c54
                   have H' := Aside0.mk H
                   clear H
                   have hnb55 := NB249_247.out
                   have hnc55 := NB247_249.out
                   obtain ⟨hcz56_0, hcz56_1, hcz56_2, hfz56_0, hfz56_1, hfz56_2⟩ := c3_ BK249
                   obtain ⟨hcz57_0, hcz57_1, hcz57_2, hcz57_3, hcz57_4, hcz57_5, hfz57_0, hfz57_1, hfz57_2, hfz57_3, hfz57_4, hfz57_5⟩ := c6_ BK247
                   have p250 : 0 ≤ ((ji52) : Int) := of_decide_eq_true (by first | (with_reducible assumption) | assumption)
                   have q250 : (ji52) < (l0_4.length : Int) := of_decide_eq_true (by first | (with_reducible assumption) | assumption)
                   obtain ⟨ad250, e250, hx250_0, hx250_1, hx250_2⟩ := at_T72 HR0_4.out (ji52) p250 q250
                   obtain rfl : ad248 = ad250 := (by injection e250)
                   have hn250_0 : ad248.block ≠ gb249 := Nat.ne_of_lt (Nat.lt_of_lt_of_le (by have := World.block_lt_of_cell? _ _ hx250_0; first | rwa [add_block] at this | exact this) GW249.out)
                   have hn250_1 : ad248.block ≠ gb249 := Nat.ne_of_lt (Nat.lt_of_lt_of_le (by have := World.block_lt_of_cell? _ _ hx250_0; first | rwa [add_block] at this | exact this) GW249.out)
                   have hn250_2 : ad248.block ≠ gb249 := Nat.ne_of_lt (Nat.lt_of_lt_of_le (by have := World.block_lt_of_cell? _ _ hx250_0; first | rwa [add_block] at this | exact this) GW249.out)
                   replace hx250_0 := (HB.out.cell (World.block_lt_of_cell? w _ hx250_0)).trans hx250_0
                   replace hx250_1 := (HB.out.cell (World.block_lt_of_cell? w _ hx250_1)).trans hx250_1
                   replace hx250_2 := (HB.out.cell (World.block_lt_of_cell? w _ hx250_2)).trans hx250_2
                   replace hx250_0 := (cell_far (p := ⟨gb249, 0, none⟩) (by first | (rw [add_block]; exact hn250_0) | (show (Addr.add _ _).block ≠ _; rw [add_block]; exact hn250_0) | exact hn250_0) (.int .i64 ((rd_T72 l0_4 x3_2).f0))).trans hx250_0
                   replace hx250_1 := (cell_far (p := ⟨gb249, 0, none⟩) (by first | (rw [add_block]; exact hn250_0) | (show (Addr.add _ _).block ≠ _; rw [add_block]; exact hn250_0) | exact hn250_0) (.int .i64 ((rd_T72 l0_4 x3_2).f0))).trans hx250_1
                   replace hx250_2 := (cell_far (p := ⟨gb249, 0, none⟩) (by first | (rw [add_block]; exact hn250_0) | (show (Addr.add _ _).block ≠ _; rw [add_block]; exact hn250_0) | exact hn250_0) (.int .i64 ((rd_T72 l0_4 x3_2).f0))).trans hx250_2
                   replace hx250_0 := (cell_far (p := ⟨gb249, 1, none⟩) (by first | (rw [add_block]; exact hn250_1) | (show (Addr.add _ _).block ≠ _; rw [add_block]; exact hn250_1) | exact hn250_1) (.int .i64 ((rd_T72 l0_4 x3_2).f1))).trans hx250_0
                   replace hx250_1 := (cell_far (p := ⟨gb249, 1, none⟩) (by first | (rw [add_block]; exact hn250_1) | (show (Addr.add _ _).block ≠ _; rw [add_block]; exact hn250_1) | exact hn250_1) (.int .i64 ((rd_T72 l0_4 x3_2).f1))).trans hx250_1
                   replace hx250_2 := (cell_far (p := ⟨gb249, 1, none⟩) (by first | (rw [add_block]; exact hn250_1) | (show (Addr.add _ _).block ≠ _; rw [add_block]; exact hn250_1) | exact hn250_1) (.int .i64 ((rd_T72 l0_4 x3_2).f1))).trans hx250_2
                   replace hx250_0 := (cell_far (p := ⟨gb249, 2, none⟩) (by first | (rw [add_block]; exact hn250_2) | (show (Addr.add _ _).block ≠ _; rw [add_block]; exact hn250_2) | exact hn250_2) (.int .i64 ((rd_T72 l0_4 x3_2).f2))).trans hx250_0
                   replace hx250_1 := (cell_far (p := ⟨gb249, 2, none⟩) (by first | (rw [add_block]; exact hn250_2) | (show (Addr.add _ _).block ≠ _; rw [add_block]; exact hn250_2) | exact hn250_2) (.int .i64 ((rd_T72 l0_4 x3_2).f2))).trans hx250_1
                   replace hx250_2 := (cell_far (p := ⟨gb249, 2, none⟩) (by first | (rw [add_block]; exact hn250_2) | (show (Addr.add _ _).block ≠ _; rw [add_block]; exact hn250_2) | exact hn250_2) (.int .i64 ((rd_T72 l0_4 x3_2).f2))).trans hx250_2
                   (try have hy250_0 := fun (n_ : Nat) => (show (((((w24.drewN n_).setCell ⟨gb249, 0, none⟩ (.int .i64 ((rd_T72 l0_4 x3_2).f0))).setCell ⟨gb249, 1, none⟩ (.int .i64 ((rd_T72 l0_4 x3_2).f1))).setCell ⟨gb249, 2, none⟩ (.int .i64 ((rd_T72 l0_4 x3_2).f2)))).cell? _ = some _ from hx250_0))
                   (try have hy250_1 := fun (n_ : Nat) => (show (((((w24.drewN n_).setCell ⟨gb249, 0, none⟩ (.int .i64 ((rd_T72 l0_4 x3_2).f0))).setCell ⟨gb249, 1, none⟩ (.int .i64 ((rd_T72 l0_4 x3_2).f1))).setCell ⟨gb249, 2, none⟩ (.int .i64 ((rd_T72 l0_4 x3_2).f2)))).cell? _ = some _ from hx250_1))
                   (try have hy250_2 := fun (n_ : Nat) => (show (((((w24.drewN n_).setCell ⟨gb249, 0, none⟩ (.int .i64 ((rd_T72 l0_4 x3_2).f0))).setCell ⟨gb249, 1, none⟩ (.int .i64 ((rd_T72 l0_4 x3_2).f1))).setCell ⟨gb249, 2, none⟩ (.int .i64 ((rd_T72 l0_4 x3_2).f2)))).cell? _ = some _ from hx250_2))
                   clear hn250_0
                   clear hn250_1
                   clear hn250_2
                   replace p250 := eq_true p250
                   replace q250 := eq_true q250
                   go_wp2
                   repeat (go_quiet (fail); try go_wp2)
                   go_meet
                   case rel => exact ⟨_, (decide (((rd_T72 l0_4 x3_2).f1) ≤ ((rd_T72 l0_4 (ji52)).f1))), (by first | rfl | (simp; done) | (simp only [← hji52] <;> (first | rfl | simp)) | (simp [*]; done)), H', ⟨by have := HJ1.out; have := HK2.out; first | omega | exact Nat.le_refl _⟩, ⟨by (with_reducible repeat (first | refine blk_drewN ?_ _ | refine blk_drew ?_ | refine blk_alloc ?_ _)); refine blk_far ?_ NB247_249.out _; (with_reducible repeat (first | refine blk_drewN ?_ _ | refine blk_drew ?_ | refine blk_alloc ?_ _)); refine blk_far ?_ NB247_249.out _; (with_reducible repeat (first | refine blk_drewN ?_ _ | refine blk_drew ?_ | refine blk_alloc ?_ _)); refine blk_far ?_ NB247_249.out _; (with_reducible repeat (first | refine blk_drewN ?_ _ | refine blk_drew ?_ | refine blk_alloc ?_ _)); exact BK247.out⟩, ⟨by (with_reducible repeat (first | refine blk_drewN ?_ _ | refine blk_drew ?_ | refine blk_alloc ?_ _)); refine blk_put (cs := #[.int .i64 ((rd_T72 l0_4 x3_2).f0), .int .i64 ((rd_T72 l0_4 x3_2).f1), .int .i64 0]) ?_ 2 _ rfl; (with_reducible repeat (first | refine blk_drewN ?_ _ | refine blk_drew ?_ | refine blk_alloc ?_ _)); refine blk_put (cs := #[.int .i64 ((rd_T72 l0_4 x3_2).f0), .int .i64 0, .int .i64 0]) ?_ 1 _ rfl; (with_reducible repeat (first | refine blk_drewN ?_ _ | refine blk_drew ?_ | refine blk_alloc ?_ _)); refine blk_put (cs := #[.int .i64 0, .int .i64 0, .int .i64 0]) ?_ 0 _ rfl; (with_reducible repeat (first | refine blk_drewN ?_ _ | refine blk_drew ?_ | refine blk_alloc ?_ _)); exact BK249.out⟩, ⟨by repeat (first | (with_reducible first | exact HB.out | apply bU | apply bS GE247.out | apply bS GE249.out) | exact HB.out)⟩⟩
                  ·rw [if_neg c54] at H
                   exact absurd H (by simp)
                 ·rw [if_neg c53] at H
                  exact absurd H (by simp)
                ·rw [if_neg c51] at H
                 have c51b0 : decide (0 < x3_2) = false := decide_eq_false c51
                 clear c51
                 have H' := Aside0.mk H
                 clear H
                 have hnb58 := NB249_247.out
                 have hnc58 := NB247_249.out
                 obtain ⟨hcz59_0, hcz59_1, hcz59_2, hfz59_0, hfz59_1, hfz59_2⟩ := c3_ BK249
                 obtain ⟨hcz60_0, hcz60_1, hcz60_2, hcz60_3, hcz60_4, hcz60_5, hfz60_0, hfz60_1, hfz60_2, hfz60_3, hfz60_4, hfz60_5⟩ := c6_ BK247
                 go_wp2
                 repeat (go_quiet (fail); try go_wp2)
                 go_meet
                 case rel => exact ⟨_, (false), (by first | rfl | (simp; done) | (simp [*]; done)), H', ⟨by have := HJ1.out; have := HK2.out; first | omega | exact Nat.le_refl _⟩, ⟨by (with_reducible repeat (first | refine blk_drewN ?_ _ | refine blk_drew ?_ | refine blk_alloc ?_ _)); refine blk_far ?_ NB247_249.out _; (with_reducible repeat (first | refine blk_drewN ?_ _ | refine blk_drew ?_ | refine blk_alloc ?_ _)); refine blk_far ?_ NB247_249.out _; (with_reducible repeat (first | refine blk_drewN ?_ _ | refine blk_drew ?_ | refine blk_alloc ?_ _)); refine blk_far ?_ NB247_249.out _; (with_reducible repeat (first | refine blk_drewN ?_ _ | refine blk_drew ?_ | refine blk_alloc ?_ _)); exact BK247.out⟩, ⟨by (with_reducible repeat (first | refine blk_drewN ?_ _ | refine blk_drew ?_ | refine blk_alloc ?_ _)); refine blk_put (cs := #[.int .i64 ((rd_T72 l0_4 x3_2).f0), .int .i64 ((rd_T72 l0_4 x3_2).f1), .int .i64 0]) ?_ 2 _ rfl; (with_reducible repeat (first | refine blk_drewN ?_ _ | refine blk_drew ?_ | refine blk_alloc ?_ _)); refine blk_put (cs := #[.int .i64 ((rd_T72 l0_4 x3_2).f0), .int .i64 0, .int .i64 0]) ?_ 1 _ rfl; (with_reducible repeat (first | refine blk_drewN ?_ _ | refine blk_drew ?_ | refine blk_alloc ?_ _)); refine blk_put (cs := #[.int .i64 0, .int .i64 0, .int .i64 0]) ?_ 0 _ rfl; (with_reducible repeat (first | refine blk_drewN ?_ _ | refine blk_drew ?_ | refine blk_alloc ?_ _)); exact BK249.out⟩, ⟨by repeat (first | (with_reducible first | exact HB.out | apply bU | apply bS GE247.out | apply bS GE249.out) | exact HB.out)⟩⟩
        case rest =>
         clear HC22
         (try clear c19); (try clear c20); (try clear c20b0); (try clear c21); (try clear c21b0); (try clear hcz23_0); (try clear hcz23_1); (try clear hcz23_2); (try clear hcz23_3); (try clear hcz23_4); (try clear hcz23_5); (try clear hcz26_0); (try clear hcz26_1); (try clear hcz26_2); (try clear hfz23_0); (try clear hfz23_1); (try clear hfz23_2); (try clear hfz23_3); (try clear hfz23_4); (try clear hfz23_5); (try clear hfz26_0); (try clear hfz26_1); (try clear hfz26_2); (try clear hx248_0); (try clear hx248_1); (try clear hx248_2); (try clear p248); (try clear q248)
         obtain ⟨kq, x109_21, rfl, HA, HJ21, BK247, BK249, HB⟩ := hcut
         cases kq with
         | zero => exact absurd HA.out (by simp [waypointref32_Valid.j2])
         | succ kj21 =>
          have H := HA.out
          clear HA
          simp only [waypointref32_Valid.j2] at H
          by_cases c61 : x109_21 = true
          ·subst c61
           have H1 : (some false) = some r := by rw [if_pos rfl] at H; exact H
           clear H
           have H := H1
           clear H1
           obtain rfl := Option.some.inj H
           go_wp2
           repeat (go_quiet (fail); try go_wp2)
           go_ret
           exact ⟨by first | rfl | (simp [errW_none, errW_some] <;> rfl) | (simp [*, errW_none, errW_some] <;> rfl), by repeat (first | (with_reducible first | exact HB.out | apply bU | apply bS GE247.out | apply bS GE249.out) | exact HB.out)⟩
          ·replace c61 := Bool.eq_false_iff.mpr c61
           subst c61
           have H1 : (waypointref32_Valid.l0 kj21 (wrap64 (x3_2 + 1)) a0_0 a0_1 a0_2 a0_3 l0_4 l0_5) = some r := by rw [if_neg (show ¬ (false = true) by decide)] at H; exact H
           clear H
           have H := H1
           clear H1
           have H' := Aside0.mk H
           clear H
           go_wp2
           repeat (go_quiet (fail); try go_wp2)
           go_roundg kj21
           case measure => have := HJ1.out; have := HK2.out; have := HJ21.out; omega
           case rel => exact ⟨(wrap64 (x3_2 + 1)), (by first | rfl | (simp; done) | (simp [*]; done)), H', ⟨by have := HJ1.out; have := HK2.out; have := HJ21.out; omega⟩, ⟨kb_ BK247⟩, ⟨by repeat (first | (with_reducible first | exact HB.out | apply bU | apply bS GE247.out | apply bS GE249.out) | exact HB.out)⟩⟩
       ·rw [if_neg c21] at H
        exact absurd H (by simp)
      ·rw [if_neg c20] at H
       have c20b0 : decide (x3_2 < (l0_4.length : Int)) = false := decide_eq_false c20
       clear c20
       have H' := Aside0.mk H
       clear H
       obtain ⟨hcz62_0, hcz62_1, hcz62_2, hcz62_3, hcz62_4, hcz62_5, hfz62_0, hfz62_1, hfz62_2, hfz62_3, hfz62_4, hfz62_5⟩ := c6_ BK247
       go_wp2
       repeat (go_quiet (fail); try go_wp2)
       go_loopg [5] k2 (fun kq v5 w' => ∃ (x5_3 : Int), v5 = .int .i64 x5_3 ∧ Aside0 (waypointref32_Valid.l1 kq x5_3 a0_0 a0_1 a0_2 a0_3 l0_4 l0_5 = some r) ∧ Aside0 (kq ≤ k2) ∧ Aside0 (w'.heap[gb247]? = some (.cells #[.int .i64 a0_0, .int .i64 a0_1, .int .i64 a0_2, .bool a0_3, (.slice A0_4 l0_4.length c0_4), (.slice A0_5 l0_5.length c0_5)] 32 (0, 0))) ∧ Aside0 (Below w.heap.size w w'))
       case atStart => exact ⟨(0), (by first | rfl | (simp; done) | (simp [*]; done)), H', ⟨Nat.le_refl _⟩, ⟨kb_ BK247⟩, ⟨by repeat (first | (with_reducible first | exact HB.out | apply bU | apply bS GE247.out) | exact HB.out)⟩⟩
       case round =>
        clear H'
        (try clear c19); (try clear c20); (try clear c20b0); (try clear hcz62_0); (try clear hcz62_1); (try clear hcz62_2); (try clear hcz62_3); (try clear hcz62_4); (try clear hcz62_5); (try clear hfz62_0); (try clear hfz62_1); (try clear hfz62_2); (try clear hfz62_3); (try clear hfz62_4); (try clear hfz62_5)
        obtain ⟨x5_3, rfl, HA, HK3, BK247, HB⟩ := hrel
        cases gk with
        | zero => exact absurd HA.out (by simp [waypointref32_Valid.l1])
        | succ k3 =>
         have H := HA.out
         clear HA
         simp only [waypointref32_Valid.l1] at H
         by_cases c63 : x5_3 < (l0_5.length : Int)
         ·rw [if_pos c63] at H
          have c63b0 : decide (x5_3 < (l0_5.length : Int)) = true := decide_eq_true c63
          clear c63
          by_cases c64 : 0 ≤ x5_3
          ·rw [if_pos c64] at H
           have c64b0 : decide (0 ≤ x5_3) = true := decide_eq_true c64
           clear c64
           replace H := Option.bind_eq_some_iff.mp H
           obtain ⟨t253, A650, H⟩ := H
           replace H : (if t253 = true then (if x5_3 > 0 then (if 0 ≤ (wrap64 (x5_3 - 1)) then (if (wrap64 (x5_3 - 1)) < (l0_5.length : Int) then (if ((rd_T76 l0_5 x5_3).f0) < ((rd_T76 l0_5 (wrap64 (x5_3 - 1))).f0) then (waypointref32_Valid.j4 k3 x5_3 true a0_0 a0_1 a0_2 a0_3 l0_4 l0_5) else (if ((rd_T76 l0_5 x5_3).f0) = ((rd_T76 l0_5 (wrap64 (x5_3 - 1))).f0) then (waypointref32_Valid.j4 k3 x5_3 (decide (((rd_T76 l0_5 x5_3).f1) ≤ ((rd_T76 l0_5 (wrap64 (x5_3 - 1))).f1))) a0_0 a0_1 a0_2 a0_3 l0_4 l0_5) else (waypointref32_Valid.j4 k3 x5_3 false a0_0 a0_1 a0_2 a0_3 l0_4 l0_5))) else (none)) else (none)) else (waypointref32_Valid.j4 k3 x5_3 false a0_0 a0_1 a0_2 a0_3 l0_4 l0_5)) else (some false)) = some r := H
           have A65 := Aside0.mk A650
           clear A650
           by_cases c66 : t253 = true
           ·subst c66
            have H1 : (if x5_3 > 0 then (if 0 ≤ (wrap64 (x5_3 - 1)) then (if (wrap64 (x5_3 - 1)) < (l0_5.length : Int) then (if ((rd_T76 l0_5 x5_3).f0) < ((rd_T76 l0_5 (wrap64 (x5_3 - 1))).f0) then (waypointref32_Valid.j4 k3 x5_3 true a0_0 a0_1 a0_2 a0_3 l0_4 l0_5) else (if ((rd_T76 l0_5 x5_3).f0) = ((rd_T76 l0_5 (wrap64 (x5_3 - 1))).f0) then (waypointref32_Valid.j4 k3 x5_3 (decide (((rd_T76 l0_5 x5_3).f1) ≤ ((rd_T76 l0_5 (wrap64 (x5_3 - 1))).f1))) a0_0 a0_1 a0_2 a0_3 l0_4 l0_5) else (waypointref32_Valid.j4 k3 x5_3 false a0_0 a0_1 a0_2 a0_3 l0_4 l0_5))) else (none)) else (none)) else (waypointref32_Valid.j4 k3 x5_3 false a0_0 a0_1 a0_2 a0_3 l0_4 l0_5)) = some r := by rw [if_pos rfl] at H; exact H
            clear H
            have H := H1
            clear H1
            have HC67 := Aside0.mk H
            clear H
            obtain ⟨hcz68_0, hcz68_1, hcz68_2, hcz68_3, hcz68_4, hcz68_5, hfz68_0, hfz68_1, hfz68_2, hfz68_3, hfz68_4, hfz68_5⟩ := c6_ BK247
            have p251 : 0 ≤ (x5_3 : Int) := of_decide_eq_true (by first | (with_reducible assumption) | assumption)
            have q251 : x5_3 < (l0_5.length : Int) := of_decide_eq_true (by first | (with_reducible assumption) | assumption)
            obtain ⟨ad251, e251, hx251_0, hx251_1⟩ := at_T76 HR0_5.out x5_3 p251 q251
            cases e251
            replace hx251_0 := (HB.out.cell (World.block_lt_of_cell? w _ hx251_0)).trans hx251_0
            replace hx251_1 := (HB.out.cell (World.block_lt_of_cell? w _ hx251_1)).trans hx251_1
            replace p251 := eq_true p251
            replace q251 := eq_true q251
            go_upto_region 15 with (first | ((with_reducible refine gate_dst (N := 6) rfl ?_); (try (refine gate_guard (by rfl) ?_; dsimp only)); refine box_event ?hg (N := 6) ?hd (cs := #[.int .u32 0, .int .i64 0]) (t := 76) ?hr ?_; (case hd => rfl); (case hg => rfl); (case hr => first | (go_simp; done) | (go_simp; rfl)); intro gb252 hg w69 hbox hb; have BK252 := Aside0.mk (hbox); have GW252 := Aside0.mk ((by rw [hg]; exact (below_size (by repeat (first | (with_reducible first | exact HB.out | apply bU | apply bS GE247.out) | exact HB.out))) : w.heap.size ≤ gb252)); have GE252 := Aside0.mk ((by rw [hg]; exact (below_size (by repeat (first | (with_reducible first | exact HB.out | apply bU | apply bS GE247.out) | exact HB.out))) : w.heap.size ≤ gb252)); have NB247_252 := nl_ BK247 hg; have NB252_247 := ng_ BK247 hg; replace BK247 := bb_ BK247 hb; replace HB := Aside0.mk (below_step (by repeat (first | (with_reducible first | exact HB.out | apply bU | apply bS GE247.out) | exact HB.out)) hb); clear hb hbox hg; have hnb70 := NB252_247.out; have hnc70 := NB247_252.out; obtain ⟨hcz71_0, hcz71_1, hfz71_0, hfz71_1⟩ := c2_ BK252) | (go_at_call 43; (with_reducible refine (waypointref32_Prefix.calls k3 ((rd_T76 l0_5 x5_3).f0) ((rd_T76 l0_5 x5_3).f1) true _ A65.out).mono ?_); rintro e w72 ⟨rfl, hb⟩; replace BK247 := Aside0.mk (blk_below (g := gb247) (o := .cells #[.int .i64 a0_0, .int .i64 a0_1, .int .i64 a0_2, .bool a0_3, .slice A0_4 l0_4.length c0_4, .slice (some ad251) l0_5.length c0_5] 32 (0, 0)) (by (with_reducible repeat (first | refine blk_drewN ?_ _ | refine blk_drew ?_ | refine blk_alloc ?_ _)); refine blk_far ?_ NB247_252.out _; (with_reducible repeat (first | refine blk_drewN ?_ _ | refine blk_drew ?_ | refine blk_alloc ?_ _)); refine blk_far ?_ NB247_252.out _; (with_reducible repeat (first | refine blk_drewN ?_ _ | refine blk_drew ?_ | refine blk_alloc ?_ _)); exact BK247.out) hb); replace BK252 := Aside0.mk (blk_below (g := gb252) (o := .cells #[.int .u32 ((rd_T76 l0_5 x5_3).f0), .int .i64 ((rd_T76 l0_5 x5_3).f1)] 76 (0, 0)) (by (with_reducible repeat (first | refine blk_drewN ?_ _ | refine blk_drew ?_ | refine blk_alloc ?_ _)); refine blk_put (cs := #[.int .u32 ((rd_T76 l0_5 x5_3).f0), .int .i64 0]) ?_ 1 _ rfl; (with_reducible repeat (first | refine blk_drewN ?_ _ | refine blk_drew ?_ | refine blk_alloc ?_ _)); refine blk_put (cs := #[.int .u32 0, .int .i64 0]) ?_ 0 _ rfl; (with_reducible repeat (first | refine blk_drewN ?_ _ | refine blk_drew ?_ | refine blk_alloc ?_ _)); exact BK252.out) hb); replace HB := Aside0.mk (below_step (by repeat (first | (with_reducible first | exact HB.out | apply bU | apply bS GE247.out | apply bS GE252.out) | exact HB.out)) hb); (try clear hb); (try clear hb2); (try clear hk); (try clear hi)))
            (try simp only [Act.put, List.setIfInBounds_toArray, List.set_cons_zero, List.set_cons_succ])
            go_cut [162] (fun v162 wc => ∃ (kq : Nat) (x162_66 : Bool), v162 = .bool x162_66 ∧ Aside0 (waypointref32_Valid.j4 kq x5_3 x162_66 a0_0 a0_1 a0_2 a0_3 l0_4 l0_5 = some r) ∧ Aside0 (kq ≤ k3) ∧ Aside0 (wc.heap[gb247]? = some (.cells #[.int .i64 a0_0, .int .i64 a0_1, .int .i64 a0_2, .bool a0_3, (.slice A0_4 l0_4.length c0_4), (.slice (some ad251) l0_5.length c0_5)] 32 (0, 0))) ∧ Aside0 (wc.heap[gb252]? = some (.cells #[.int .u32 ((rd_T76 l0_5 x5_3).f0), .int .i64 ((rd_T76 l0_5 x5_3).f1)] 76 (0, 0))) ∧ Aside0 (Below w.heap.size w wc))
            case first =>
             have H := HC67.out
             clear HC67
             by_cases c73 : x5_3 > 0
             ·rw [if_pos c73] at H
              have c73b0 : decide (0 < x5_3) = true := decide_eq_true c73
              clear c73
              (first | rw [c73b0] | (simp only [i64_w, i32_w]; rw [c73b0]) | skip)
              obtain ⟨ji74, hji74⟩ : ∃ j_ : Int, (wrap64 (x5_3 - 1)) = j_ := ⟨_, rfl⟩
              replace H : (if 0 ≤ (ji74) then (if (ji74) < (l0_5.length : Int) then (if ((rd_T76 l0_5 x5_3).f0) < ((rd_T76 l0_5 (ji74)).f0) then (waypointref32_Valid.j4 k3 x5_3 true a0_0 a0_1 a0_2 a0_3 l0_4 l0_5) else (if ((rd_T76 l0_5 x5_3).f0) = ((rd_T76 l0_5 (ji74)).f0) then (waypointref32_Valid.j4 k3 x5_3 (decide (((rd_T76 l0_5 x5_3).f1) ≤ ((rd_T76 l0_5 (ji74)).f1))) a0_0 a0_1 a0_2 a0_3 l0_4 l0_5) else (waypointref32_Valid.j4 k3 x5_3 false a0_0 a0_1 a0_2 a0_3 l0_4 l0_5))) else (none)) else (none)) = some r := by first | (rw [hji74] at H; exact H) | (simp only [hji74] at H ⊢; exact H)
              have hji74w : (IntKind.i64.wrap (x5_3 - 1)) = ji74 := (i64_w _).trans hji74
              by_cases c75 : 0 ≤ (ji74)
              ·rw [if_pos c75] at H
               have c75b0 : decide (0 ≤ (ji74)) = true := decide_eq_true c75
               clear c75
               by_cases c76 : (ji74) < (l0_5.length : Int)
               ·rw [if_pos c76] at H
                have c76b0 : decide ((ji74) < (l0_5.length : Int)) = true := decide_eq_true c76
                clear c76
                by_cases c77 : ((rd_T76 l0_5 x5_3).f0) < ((rd_T76 l0_5 (ji74)).f0)
                ·rw [if_pos c77] at H
                 have c77b0 : decide (((rd_T76 l0_5 x5_3).f0) < ((rd_T76 l0_5 (ji74)).f0)) = true := decide_eq_true c77
                 clear c77
                 have H' := Aside0.mk H
                 clear H
                 have hnb78 := NB252_247.out
                 have hnc78 := NB247_252.out
                 obtain ⟨hcz79_0, hcz79_1, hfz79_0, hfz79_1⟩ := c2_ BK252
                 obtain ⟨hcz80_0, hcz80_1, hcz80_2, hcz80_3, hcz80_4, hcz80_5, hfz80_0, hfz80_1, hfz80_2, hfz80_3, hfz80_4, hfz80_5⟩ := c6_ BK247
                 have p254 : 0 ≤ ((ji74) : Int) := of_decide_eq_true (by first | (with_reducible assumption) | assumption)
                 have q254 : (ji74) < (l0_5.length : Int) := of_decide_eq_true (by first | (with_reducible assumption) | assumption)
                 obtain ⟨ad254, e254, hx254_0, hx254_1⟩ := at_T76 HR0_5.out (ji74) p254 q254
                 obtain rfl : ad251 = ad254 := (by injection e254)
                 replace hx254_0 := (HB.out.cell (World.block_lt_of_cell? w _ hx254_0)).trans hx254_0
                 replace hx254_1 := (HB.out.cell (World.block_lt_of_cell? w _ hx254_1)).trans hx254_1
                 replace p254 := eq_true p254
                 replace q254 := eq_true q254
                 go_wp2
                 repeat (go_quiet (fail); try go_wp2)
                 go_meet
                 case rel => exact ⟨_, (true), (by first | rfl | (simp; done) | (simp [*]; done)), H', ⟨by have := HJ1.out; have := HK2.out; have := HK3.out; first | omega | exact Nat.le_refl _⟩, ⟨kb_ BK247⟩, ⟨kb_ BK252⟩, ⟨by repeat (first | (with_reducible first | exact HB.out | apply bU | apply bS GE247.out | apply bS GE252.out) | exact HB.out)⟩⟩
                ·rw [if_neg c77] at H
                 have c77b0 : decide (((rd_T76 l0_5 x5_3).f0) < ((rd_T76 l0_5 (ji74)).f0)) = false := decide_eq_false c77
                 clear c77
                 by_cases c81 : ((rd_T76 l0_5 x5_3).f0) = ((rd_T76 l0_5 (ji74)).f0)
                 ·rw [if_pos c81] at H
                  have c81b0 : (((rd_T76 l0_5 x5_3).f0) == ((rd_T76 l0_5 (ji74)).f0)) = true := beq_iff_eq.mpr c81
                  have c81b1 : (((rd_T76 l0_5 x5_3).f0) != ((rd_T76 l0_5 (ji74)).f0)) = false := bne_eq_false_iff_eq.mpr c81
                  clear c81
                  have H' := Aside0.mk H
                  clear H
                  have hnb82 := NB252_247.out
                  have hnc82 := NB247_252.out
                  obtain ⟨hcz83_0, hcz83_1, hfz83_0, hfz83_1⟩ := c2_ BK252
                  obtain ⟨hcz84_0, hcz84_1, hcz84_2, hcz84_3, hcz84_4, hcz84_5, hfz84_0, hfz84_1, hfz84_2, hfz84_3, hfz84_4, hfz84_5⟩ := c6_ BK247
                  have p254 : 0 ≤ ((ji74) : Int) := of_decide_eq_true (by first | (with_reducible assumption) | assumption)
                  have q254 : (ji74) < (l0_5.length : Int) := of_decide_eq_true (by first | (with_reducible assumption) | assumption)
                  obtain ⟨ad254, e254, hx254_0, hx254_1⟩ := at_T76 HR0_5.out (ji74) p254 q254
                  obtain rfl : ad251 = ad254 := (by injection e254)
                  replace hx254_0 := (HB.out.cell (World.block_lt_of_cell? w _ hx254_0)).trans hx254_0
                  replace hx254_1 := (HB.out.cell (World.block_lt_of_cell? w _ hx254_1)).trans hx254_1
                  replace p254 := eq_true p254
                  replace q254 := eq_true q254
                  have p255 : 0 ≤ ((ji74) : Int) := of_decide_eq_true (by first | (with_reducible assumption) | assumption)
                  have q255 : (ji74) < (l0_5.length : Int) := of_decide_eq_true (by first | (with_reducible assumption) | assumption)
                  obtain ⟨ad255, e255, hx255_0, hx255_1⟩ := at_T76 HR0_5.out (ji74) p255 q255
                  obtain rfl : ad251 = ad255 := (by injection e255)
                  replace hx255_0 := (HB.out.cell (World.block_lt_of_cell? w _ hx255_0)).trans hx255_0
                  replace hx255_1 := (HB.out.cell (World.block_lt_of_cell? w _ hx255_1)).trans hx255_1
                  replace p255 := eq_true p255
                  replace q255 := eq_true q255
                  have p256 : 0 ≤ ((ji74) : Int) := of_decide_eq_true (by first | (with_reducible assumption) | assumption)
                  have q256 : (ji74) < (l0_5.length : Int) := of_decide_eq_true (by first | (with_reducible assumption) | assumption)
                  obtain ⟨ad256, e256, hx256_0, hx256_1⟩ := at_T76 HR0_5.out (ji74) p256 q256
                  obtain rfl : ad251 = ad256 := (by injection e256)
                  replace hx256_0 := (HB.out.cell (World.block_lt_of_cell? w _ hx256_0)).trans hx256_0
                  replace hx256_1 := (HB.out.cell (World.block_lt_of_cell? w _ hx256_1)).trans hx256_1
                  replace p256 := eq_true p256
                  replace q256 := eq_true q256
                  go_wp2
                  repeat (go_quiet (fail); try go_wp2)
                  go_meet
                  case rel => exact ⟨_, (decide (((rd_T76 l0_5 x5_3).f1) ≤ ((rd_T76 l0_5 (ji74)).f1))), (by first | rfl | (simp; done) | (simp only [← hji74] <;> (first | rfl | simp)) | (simp [*]; done)), H', ⟨by have := HJ1.out; have := HK2.out; have := HK3.out; first | omega | exact Nat.le_refl _⟩, ⟨kb_ BK247⟩, ⟨kb_ BK252⟩, ⟨by repeat (first | (with_reducible first | exact HB.out | apply bU | apply bS GE247.out | apply bS GE252.out) | exact HB.out)⟩⟩
                 ·rw [if_neg c81] at H
                  have c81b0 : (((rd_T76 l0_5 x5_3).f0) == ((rd_T76 l0_5 (ji74)).f0)) = false := beq_eq_false_iff_ne.mpr c81
                  have c81b1 : (((rd_T76 l0_5 x5_3).f0) != ((rd_T76 l0_5 (ji74)).f0)) = true := bne_iff_ne.mpr c81
                  have H' := Aside0.mk H
                  clear H
                  have hnb85 := NB252_247.out
                  have hnc85 := NB247_252.out
                  obtain ⟨hcz86_0, hcz86_1, hfz86_0, hfz86_1⟩ := c2_ BK252
                  obtain ⟨hcz87_0, hcz87_1, hcz87_2, hcz87_3, hcz87_4, hcz87_5, hfz87_0, hfz87_1, hfz87_2, hfz87_3, hfz87_4, hfz87_5⟩ := c6_ BK247
                  have p254 : 0 ≤ ((ji74) : Int) := of_decide_eq_true (by first | (with_reducible assumption) | assumption)
                  have q254 : (ji74) < (l0_5.length : Int) := of_decide_eq_true (by first | (with_reducible assumption) | assumption)
                  obtain ⟨ad254, e254, hx254_0, hx254_1⟩ := at_T76 HR0_5.out (ji74) p254 q254
                  obtain rfl : ad251 = ad254 := (by injection e254)
                  replace hx254_0 := (HB.out.cell (World.block_lt_of_cell? w _ hx254_0)).trans hx254_0
                  replace hx254_1 := (HB.out.cell (World.block_lt_of_cell? w _ hx254_1)).trans hx254_1
                  replace p254 := eq_true p254
                  replace q254 := eq_true q254
                  have p255 : 0 ≤ ((ji74) : Int) := of_decide_eq_true (by first | (with_reducible assumption) | assumption)
                  have q255 : (ji74) < (l0_5.length : Int) := of_decide_eq_true (by first | (with_reducible assumption) | assumption)
                  obtain ⟨ad255, e255, hx255_0, hx255_1⟩ := at_T76 HR0_5.out (ji74) p255 q255
                  obtain rfl : ad251 = ad255 := (by injection e255)
                  replace hx255_0 := (HB.out.cell (World.block_lt_of_cell? w _ hx255_0)).trans hx255_0
                  replace hx255_1 := (HB.out.cell (World.block_lt_of_cell? w _ hx255_1)).trans hx255_1
                  replace p255 := eq_true p255
                  replace q255 := eq_true q255
                  go_wp2
                  repeat (go_quiet (fail); try go_wp2)
                  go_meet
                  case rel => exact ⟨_, (false), (by first | rfl | (simp; done) | (simp [*]; done)), H', ⟨by have := HJ1.out; have := HK2.out; have := HK3.out; first | omega | exact Nat.le_refl _⟩, ⟨kb_ BK247⟩, ⟨kb_ BK252⟩, ⟨by repeat (first | (with_reducible first | exact HB.out | apply bU | apply bS GE247.out | apply bS GE252.out) | exact HB.out)⟩⟩
               ·rw [if_neg c76] at H
                exact absurd H (by simp)
              ·rw [if_neg c75] at H
               exact absurd H (by simp)
             ·rw [if_neg c73] at H
              have c73b0 : decide (0 < x5_3) = false := decide_eq_false c73
              clear c73
              (first | rw [c73b0] | (simp only [i64_w, i32_w]; rw [c73b0]) | skip)
              have H' := Aside0.mk H
              clear H
              go_wp2
              repeat (go_quiet (fail); try go_wp2)
              go_meet
              case rel => exact ⟨_, (false), (by first | rfl | (simp; done) | (simp [*]; done)), H', ⟨by have := HJ1.out; have := HK2.out; have := HK3.out; first | omega | exact Nat.le_refl _⟩, ⟨kb_ BK247⟩, ⟨kb_ BK252⟩, ⟨by repeat (first | (with_reducible first | exact HB.out | apply bU | apply bS GE247.out | apply bS GE252.out) | exact HB.out)⟩⟩
            case rest =>
             clear HC67
             (try clear c19); (try clear c20); (try clear c20b0); (try clear c63); (try clear c63b0); (try clear c64); (try clear c64b0); (try clear c66); (try clear hcz62_0); (try clear hcz62_1); (try clear hcz62_2); (try clear hcz62_3); (try clear hcz62_4); (try clear hcz62_5); (try clear hcz68_0); (try clear hcz68_1); (try clear hcz68_2); (try clear hcz68_3); (try clear hcz68_4); (try clear hcz68_5); (try clear hcz71_0); (try clear hcz71_1); (try clear hfz62_0); (try clear hfz62_1); (try clear hfz62_2); (try clear hfz62_3); (try clear hfz62_4); (try clear hfz62_5); (try clear hfz68_0); (try clear hfz68_1); (try clear hfz68_2); (try clear hfz68_3); (try clear hfz68_4); (try clear hfz68_5); (try clear hfz71_0); (try clear hfz71_1); (try clear hx251_0); (try clear hx251_1); (try clear p251); (try clear q251)
             obtain ⟨kq, x162_66, rfl, HA, HJ66, BK247, BK252, HB⟩ := hcut
             cases kq with
             | zero => exact absurd HA.out (by simp [waypointref32_Valid.j4])
             | succ kj66 =>
              have H := HA.out
              clear HA
              simp only [waypointref32_Valid.j4] at H
              by_cases c88 : x162_66 = true
              ·subst c88
               have H1 : (some false) = some r := by rw [if_pos rfl] at H; exact H
               clear H
               have H := H1
               clear H1
               obtain rfl := Option.some.inj H
               go_wp2
               repeat (go_quiet (fail); try go_wp2)
               go_ret
               exact ⟨by first | rfl | (simp [errW_none, errW_some] <;> rfl) | (simp [*, errW_none, errW_some] <;> rfl), by repeat (first | (with_reducible first | exact HB.out | apply bU | apply bS GE247.out | apply bS GE252.out) | exact HB.out)⟩
              ·replace c88 := Bool.eq_false_iff.mpr c88
               subst c88
               have H1 : (waypointref32_Valid.l1 kj66 (wrap64 (x5_3 + 1)) a0_0 a0_1 a0_2 a0_3 l0_4 l0_5) = some r := by rw [if_neg (show ¬ (false = true) by decide)] at H; exact H
               clear H
               have H := H1
               clear H1
               have H' := Aside0.mk H
               clear H
               go_wp2
               repeat (go_quiet (fail); try go_wp2)
               go_roundg kj66
               case measure => have := HJ1.out; have := HK2.out; have := HK3.out; have := HJ66.out; omega
               case rel => exact ⟨(wrap64 (x5_3 + 1)), (by first | rfl | (simp; done) | (simp [*]; done)), H', ⟨by have := HJ1.out; have := HK2.out; have := HK3.out; have := HJ66.out; omega⟩, ⟨kb_ BK247⟩, ⟨by repeat (first | (with_reducible first | exact HB.out | apply bU | apply bS GE247.out | apply bS GE252.out) | exact HB.out)⟩⟩
           ·replace c66 := Bool.eq_false_iff.mpr c66
            subst c66
            have H1 : (some false) = some r := by rw [if_neg (show ¬ (false = true) by decide)] at H; exact H
            clear H
            have H := H1
            clear H1
            obtain rfl := Option.some.inj H
            obtain ⟨hcz89_0, hcz89_1, hcz89_2, hcz89_3, hcz89_4, hcz89_5, hfz89_0, hfz89_1, hfz89_2, hfz89_3, hfz89_4, hfz89_5⟩ := c6_ BK247
            have p251 : 0 ≤ (x5_3 : Int) := of_decide_eq_true (by first | (with_reducible assumption) | assumption)
            have q251 : x5_3 < (l0_5.length : Int) := of_decide_eq_true (by first | (with_reducible assumption) | assumption)
            obtain ⟨ad251, e251, hx251_0, hx251_1⟩ := at_T76 HR0_5.out x5_3 p251 q251
            cases e251
            replace hx251_0 := (HB.out.cell (World.block_lt_of_cell? w _ hx251_0)).trans hx251_0
            replace hx251_1 := (HB.out.cell (World.block_lt_of_cell? w _ hx251_1)).trans hx251_1
            replace p251 := eq_true p251
            replace q251 := eq_true q251
            go_wp2_with (first | ((with_reducible refine gate_dst (N := 6) rfl ?_); (try (refine gate_guard (by rfl) ?_; dsimp only)); refine box_event ?hg (N := 6) ?hd (cs := #[.int .u32 0, .int .i64 0]) (t := 76) ?hr ?_; (case hd => rfl); (case hg => rfl); (case hr => first | (go_simp; done) | (go_simp; rfl)); intro gb252 hg w90 hbox hb; have BK252 := Aside0.mk (hbox); have GW252 := Aside0.mk ((by rw [hg]; exact (below_size (by repeat (first | (with_reducible first | exact HB.out | apply bU | apply bS GE247.out) | exact HB.out))) : w.heap.size ≤ gb252)); have GE252 := Aside0.mk ((by rw [hg]; exact (below_size (by repeat (first | (with_reducible first | exact HB.out | apply bU | apply bS GE247.out) | exact HB.out))) : w.heap.size ≤ gb252)); have NB247_252 := nl_ BK247 hg; have NB252_247 := ng_ BK247 hg; replace BK247 := bb_ BK247 hb; replace HB := Aside0.mk (below_step (by repeat (first | (with_reducible first | exact HB.out | apply bU | apply bS GE247.out) | exact HB.out)) hb); clear hb hbox hg; have hnb91 := NB252_247.out; have hnc91 := NB247_252.out; obtain ⟨hcz92_0, hcz92_1, hfz92_0, hfz92_1⟩ := c2_ BK252) | (go_at_call 43; (with_reducible refine (waypointref32_Prefix.calls k3 ((rd_T76 l0_5 x5_3).f0) ((rd_T76 l0_5 x5_3).f1) false _ A65.out).mono ?_); rintro e w93 ⟨rfl, hb⟩; replace BK247 := Aside0.mk (blk_below (g := gb247) (o := .cells #[.int .i64 a0_0, .int .i64 a0_1, .int .i64 a0_2, .bool a0_3, .slice A0_4 l0_4.length c0_4, .slice (some ad251) l0_5.length c0_5] 32 (0, 0)) (by (with_reducible repeat (first | refine blk_drewN ?_ _ | refine blk_drew ?_ | refine blk_alloc ?_ _)); refine blk_far ?_ NB247_252.out _; (with_reducible repeat (first | refine blk_drewN ?_ _ | refine blk_drew ?_ | refine blk_alloc ?_ _)); refine blk_far ?_ NB247_252.out _; (with_reducible repeat (first | refine blk_drewN ?_ _ | refine blk_drew ?_ | refine blk_alloc ?_ _)); exact BK247.out) hb); replace BK252 := Aside0.mk (blk_below (g := gb252) (o := .cells #[.int .u32 ((rd_T76 l0_5 x5_3).f0), .int .i64 ((rd_T76 l0_5 x5_3).f1)] 76 (0, 0)) (by (with_reducible repeat (first | refine blk_drewN ?_ _ | refine blk_drew ?_ | refine blk_alloc ?_ _)); refine blk_put (cs := #[.int .u32 ((rd_T76 l0_5 x5_3).f0), .int .i64 0]) ?_ 1 _ rfl; (with_reducible repeat (first | refine blk_drewN ?_ _ | refine blk_drew ?_ | refine blk_alloc ?_ _)); refine blk_put (cs := #[.int .u32 0, .int .i64 0]) ?_ 0 _ rfl; (with_reducible repeat (first | refine blk_drewN ?_ _ | refine blk_drew ?_ | refine blk_alloc ?_ _)); exact BK252.out) hb); replace HB := Aside0.mk (below_step (by repeat (first | (with_reducible first | exact HB.out | apply bU | apply bS GE247.out | apply bS GE252.out) | exact HB.out)) hb); (try clear hb); (try clear hb2); (try clear hk); (try clear hi)))
            go_ret
            exact ⟨by first | rfl | (simp [errW_none, errW_some] <;> rfl) | (simp [*, errW_none, errW_some] <;> rfl), by repeat (first | (with_reducible first | exact HB.out | apply bU | apply bS GE247.out | apply bS GE252.out) | exact HB.out)⟩
          ·rw [if_neg c64] at H
           exact absurd H (by simp)
         ·rw [if_neg c63] at H
          have c63b0 : decide (x5_3 < (l0_5.length : Int)) = false := decide_eq_false c63
          clear c63
          by_cases c94 : a0_2 = 3600
          ·rw [if_pos c94] at H
           have c94b0 : (a0_2 == 3600) = true := beq_iff_eq.mpr c94
           have c94b1 : (a0_2 != 3600) = false := bne_eq_false_iff_eq.mpr c94
           clear c94
           by_cases c95 : a0_3 = true
           ·subst c95
            have H1 : (some false) = some r := by rw [if_pos rfl] at H; exact H
            clear H
            have H := H1
            clear H1
            obtain rfl := Option.some.inj H
            obtain ⟨hcz96_0, hcz96_1, hcz96_2, hcz96_3, hcz96_4, hcz96_5, hfz96_0, hfz96_1, hfz96_2, hfz96_3, hfz96_4, hfz96_5⟩ := c6_ BK247
            go_wp2
            repeat (go_quiet (fail); try go_wp2)
            go_ret
            exact ⟨by first | rfl | (simp [errW_none, errW_some] <;> rfl) | (simp [*, errW_none, errW_some] <;> rfl), by repeat (first | (with_reducible first | exact HB.out | apply bU | apply bS GE247.out) | exact HB.out)⟩
           ·replace c95 := Bool.eq_false_iff.mpr c95
            subst c95
            have H1 : (if (l0_4.length : Int) = 0 then (some ((l0_5.length : Int) == 0)) else (some false)) = some r := by rw [if_neg (show ¬ (false = true) by decide)] at H; exact H
            clear H
            have H := H1
            clear H1
            by_cases c97 : (l0_4.length : Int) = 0
            ·rw [if_pos c97] at H
             have c97b0 : ((l0_4.length : Int) == 0) = true := beq_iff_eq.mpr c97
             have c97b1 : ((l0_4.length : Int) != 0) = false := bne_eq_false_iff_eq.mpr c97
             clear c97
             obtain rfl := Option.some.inj H
             obtain ⟨hcz98_0, hcz98_1, hcz98_2, hcz98_3, hcz98_4, hcz98_5, hfz98_0, hfz98_1, hfz98_2, hfz98_3, hfz98_4, hfz98_5⟩ := c6_ BK247
             go_wp2
             repeat (go_quiet (fail); try go_wp2)
             go_ret
             exact ⟨by first | rfl | (simp [errW_none, errW_some] <;> rfl) | (simp [*, errW_none, errW_some] <;> rfl), by repeat (first | (with_reducible first | exact HB.out | apply bU | apply bS GE247.out) | exact HB.out)⟩
            ·rw [if_neg c97] at H
             have c97b0 : ((l0_4.length : Int) == 0) = false := beq_eq_false_iff_ne.mpr c97
             have c97b1 : ((l0_4.length : Int) != 0) = true := bne_iff_ne.mpr c97
             have c97b2 : ¬ (l0_4 = []) := fun h_ => c97 (by rw [h_]; rfl)
             obtain rfl := Option.some.inj H
             obtain ⟨hcz99_0, hcz99_1, hcz99_2, hcz99_3, hcz99_4, hcz99_5, hfz99_0, hfz99_1, hfz99_2, hfz99_3, hfz99_4, hfz99_5⟩ := c6_ BK247
             go_wp2
             repeat (go_quiet (fail); try go_wp2)
             go_ret
             exact ⟨by first | rfl | (simp [errW_none, errW_some] <;> rfl) | (simp [*, errW_none, errW_some] <;> rfl), by repeat (first | (with_reducible first | exact HB.out | apply bU | apply bS GE247.out) | exact HB.out)⟩
          ·rw [if_neg c94] at H
           have c94b0 : (a0_2 == 3600) = false := beq_eq_false_iff_ne.mpr c94
           have c94b1 : (a0_2 != 3600) = true := bne_iff_ne.mpr c94
           obtain rfl := Option.some.inj H
           obtain ⟨hcz100_0, hcz100_1, hcz100_2, hcz100_3, hcz100_4, hcz100_5, hfz100_0, hfz100_1, hfz100_2, hfz100_3, hfz100_4, hfz100_5⟩ := c6_ BK247
           go_wp2
           repeat (go_quiet (fail); try go_wp2)
           go_ret
           exact ⟨by first | rfl | (simp [errW_none, errW_some] <;> rfl) | (simp [*, errW_none, errW_some] <;> rfl), by repeat (first | (with_reducible first | exact HB.out | apply bU | apply bS GE247.out) | exact HB.out)⟩

/-! ### lsa_Same_1: function 46 -/
def lsa_Same_1.f (a0_0 : Int) (a0_1 : Int) (a0_2 : Int) (a1_0 : Int) (a1_1 : Int) (a1_2 : Int) : Option (Bool) := some (a0_0 == a1_0 && (a0_1 == a1_1 && (a0_2 == a1_2)))
set_option maxHeartbeats 8000000 in
set_option maxRecDepth 100000 in
theorem lsa_Same_1.calls (a0_0 : Int) (a0_1 : Int) (a0_2 : Int) (a1_0 : Int) (a1_1 : Int) (a1_2 : Int) (r : Bool) (w : World) (h : lsa_Same_1.f a0_0 a0_1 a0_2 a1_0 a1_1 a1_2 = some r) :
  Calls Try.prog 46 #[.agg #[.int .i64 a0_0, .int .i64 a0_1, .int .i64 a0_2], .agg #[.int .i64 a1_0, .int .i64 a1_1, .int .i64 a1_2]] w fun e w' => e = .returned (.bool r) ∧ Below w.heap.size w w' := by
 have hu72 := Try.underlying72
 have HB := Aside0.mk (Below.refl w.heap.size w)
 have H : (some (a0_0 == a1_0 && (a0_1 == a1_1 && (a0_2 == a1_2)))) = some r := h
 clear h
 obtain rfl := Option.some.inj H
 go_enter Try.func46, Try.ntmps46
 go_wp2_with (first | ((with_reducible refine gate_dst (N := 2) rfl ?_); refine bx_ 2 #[.int .i64 a0_0, .int .i64 a0_1, .int .i64 a0_2] 72 rfl rfl ?hr ?_; (case hr => go_simp; try rfl); intro gb257 hg w3 hbox hb; have BK257 := Aside0.mk (hbox); have GW257 := gs_ HB hg; have GE257 := gs_ HB hg; replace HB := bs_ HB hb; clear hb hbox hg) | ((with_reducible refine gate_dst (N := 3) rfl ?_); refine bx_ 3 #[.int .i64 a1_0, .int .i64 a1_1, .int .i64 a1_2] 72 rfl rfl ?hr ?_; (case hr => go_simp; try rfl); intro gb258 hg w4 hbox hb; have BK258 := Aside0.mk (hbox); have GW258 := Aside0.mk ((by rw [hg]; exact (below_size (by repeat (first | (with_reducible first | exact HB.out | apply bU | apply bS GE257.out) | exact HB.out))) : w.heap.size ≤ gb258)); have GE258 := Aside0.mk ((by rw [hg]; exact (below_size (by repeat (first | (with_reducible first | exact HB.out | apply bU | apply bS GE257.out) | exact HB.out))) : w.heap.size ≤ gb258)); have NB257_258 := nl_ BK257 hg; have NB258_257 := ng_ BK257 hg; replace BK257 := bb_ BK257 hb; replace HB := Aside0.mk (below_step (by repeat (first | (with_reducible first | exact HB.out | apply bU | apply bS GE257.out) | exact HB.out)) hb); clear hb hbox hg; have hnb5 := NB257_258.out; have hnc5 := NB258_257.out; obtain ⟨hcz6_0, hcz6_1, hcz6_2, hfz6_0, hfz6_1, hfz6_2⟩ := c3_ BK257; obtain ⟨hcz7_0, hcz7_1, hcz7_2, hfz7_0, hfz7_1, hfz7_2⟩ := c3_ BK258))
 go_ret
 exact ⟨by first | rfl | (simp [errW_none, errW_some] <;> rfl) | (simp [*, errW_none, errW_some] <;> rfl), by repeat (first | (with_reducible first | exact HB.out | apply bU | apply bS GE257.out | apply bS GE258.out) | exact HB.out)⟩

end Go.Proofs.Ytdkfhlfojleejaa.HLsc
