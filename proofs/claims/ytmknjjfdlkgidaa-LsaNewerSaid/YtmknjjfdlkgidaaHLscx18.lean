-- LAID by wip/hand.py, a program of this repository, over the kit's print: contracts of our own are put in. Lean checks it.
import Derived.Test.YtmknjjfdlkgidaaHLscx0
import Derived.Test.YtmknjjfdlkgidaaHLscx7
import Derived.Test.YtmknjjfdlkgidaaHLscx10
import Derived.Test.YtmknjjfdlkgidaaHLscx15
import Derived.Test.YtmknjjfdlkgidaaHLscx17
namespace Go.Proofs.Ytmknjjfdlkgidaa.HLsc
open Go.RowKit Go.Proofs.YtmknjjfdlkgidaaW.PrintWords Go.Proofs.YtmknjjfdlkgidaaW.PrintLast Go.Proofs.YtmknjjfdlkgidaaW.PrintMore
attribute [local go_sem] gtr_str leq_str max2_int min2_int max_two min_two max_three min_three max_four min_four   -- for this text's walks alone
set_option linter.unusedVariables false
set_option linter.unusedSimpArgs false

/-! ### waypointlaw32_LsaNewer: function 8 -/
def waypointlaw32_LsaNewer.j0 : Nat → Bool → Int → Int → Int → Bool → List (S43) → List (S56) → Int → Int → Int → Bool → List (S43) → List (S56) → Option (Bool)
 | 0, _, _, _, _, _, _, _, _, _, _, _, _, _ => none
 | k + 1, x14, x397000, x397001, x397002, x397003, x397004, x397005, x398000, x398001, x398002, x398003, x398004, x398005 => if x14 = true then (some true) else ((lsa_Newer.f k x397000 x397001 x397002 x397003 x397004 x397005 x398000 x398001 x398002 x398003 x398004 x398005).bind fun t401 => ((waypointref32_Newer.f k x397000 x397001 x397002 x397003 x397004 x397005 x398000 x398001 x398002 x398003 x398004 x398005).bind fun t402 => (if t401 = t402 then ((lsa_Same.f k x397000 x397001 x397002 x397003 x397004 x397005 x398000 x398001 x398002 x398003 x398004 x398005).bind fun t403 => ((waypointref32_Same.f k x397000 x397001 x397002 x397003 x397004 x397005 x398000 x398001 x398002 x398003 x398004 x398005).bind fun t404 => (some (t403 == t404)))) else (none))))
def waypointlaw32_LsaNewer.f (k : Nat) (a0_0 : Int) (a0_1 : Int) (a0_2 : Int) (a0_3 : Bool) (l0_4 : List (S43)) (l0_5 : List (S56)) (a1_0 : Int) (a1_1 : Int) (a1_2 : Int) (a1_3 : Bool) (l1_4 : List (S43)) (l1_5 : List (S56)) : Option (Bool) := (waypointlaw32_awake.f).bind fun t398 => (if t398 = true then ((waypointref32_Few.f a0_0 a0_1 a0_2 a0_3 l0_4 l0_5).bind fun t399 => (if t399 = true then ((waypointref32_Few.f a1_0 a1_1 a1_2 a1_3 l1_4 l1_5).bind fun t400 => (waypointlaw32_LsaNewer.j0 k (!t400) a0_0 a0_1 a0_2 a0_3 l0_4 l0_5 a1_0 a1_1 a1_2 a1_3 l1_4 l1_5)) else (waypointlaw32_LsaNewer.j0 k true a0_0 a0_1 a0_2 a0_3 l0_4 l0_5 a1_0 a1_1 a1_2 a1_3 l1_4 l1_5))) else (none))
theorem waypointlaw32_LsaNewer.mono_l : ∀ k, (∀ y0 y1 y2 y3 y4 y5 y6 y7 y8 y9 y10 y11 y12, LeO (waypointlaw32_LsaNewer.j0 k y0 y1 y2 y3 y4 y5 y6 y7 y8 y9 y10 y11 y12) (waypointlaw32_LsaNewer.j0 (k + 1) y0 y1 y2 y3 y4 y5 y6 y7 y8 y9 y10 y11 y12))
 | 0 => fun _ _ _ _ _ _ _ _ _ _ _ _ _ r h => by simp [waypointlaw32_LsaNewer.j0] at h
 | k + 1 => by
  have ih0 := waypointlaw32_LsaNewer.mono_l k
  ·intro y0 y1 y2 y3 y4 y5 y6 y7 y8 y9 y10 y11 y12
   unfold waypointlaw32_LsaNewer.j0
   repeat' first
   | (with_reducible exact ih0 _ _ _ _ _ _ _ _ _ _ _ _ _)
   | (with_reducible exact lsa_Newer.mono _ _ _ _ _ _ _ _ _ _ _ _ _)
   | (with_reducible exact lsa_Same.mono _ _ _ _ _ _ _ _ _ _ _ _ _)
   | (with_reducible exact waypointref32_Newer.mono _ _ _ _ _ _ _ _ _ _ _ _ _)
   | (with_reducible exact waypointref32_Same.mono _ _ _ _ _ _ _ _ _ _ _ _ _)
   | (with_reducible exact LeO.refl _)
   | (with_reducible exact LeO.none _)
   | (with_reducible refine LeO.ite ?_ ?_)
   | (with_reducible refine LeO.bind ?_ (fun _ => ?_))
   | exact ih0 _ _ _ _ _ _ _ _ _ _ _ _ _
   | exact lsa_Newer.mono _ _ _ _ _ _ _ _ _ _ _ _ _
   | exact lsa_Same.mono _ _ _ _ _ _ _ _ _ _ _ _ _
   | exact waypointref32_Newer.mono _ _ _ _ _ _ _ _ _ _ _ _ _
   | exact waypointref32_Same.mono _ _ _ _ _ _ _ _ _ _ _ _ _
   | exact LeO.none _
   | refine LeO.ite ?_ ?_
   | refine LeO.bind ?_ (fun _ => ?_)
theorem waypointlaw32_LsaNewer.mono : ∀ a0 a1 a2 a3 a4 a5 a6 a7 a8 a9 a10 a11 k, LeO (waypointlaw32_LsaNewer.f k a0 a1 a2 a3 a4 a5 a6 a7 a8 a9 a10 a11) (waypointlaw32_LsaNewer.f (k + 1) a0 a1 a2 a3 a4 a5 a6 a7 a8 a9 a10 a11) := by
 intro a0 a1 a2 a3 a4 a5 a6 a7 a8 a9 a10 a11 k
 have ih0 := waypointlaw32_LsaNewer.mono_l k
 unfold waypointlaw32_LsaNewer.f
 repeat' first
   | (with_reducible exact ih0 _ _ _ _ _ _ _ _ _ _ _ _ _)
   | (with_reducible exact lsa_Newer.mono _ _ _ _ _ _ _ _ _ _ _ _ _)
   | (with_reducible exact lsa_Same.mono _ _ _ _ _ _ _ _ _ _ _ _ _)
   | (with_reducible exact waypointref32_Newer.mono _ _ _ _ _ _ _ _ _ _ _ _ _)
   | (with_reducible exact waypointref32_Same.mono _ _ _ _ _ _ _ _ _ _ _ _ _)
   | (with_reducible exact LeO.refl _)
   | (with_reducible exact LeO.none _)
   | (with_reducible refine LeO.ite ?_ ?_)
   | (with_reducible refine LeO.bind ?_ (fun _ => ?_))
   | exact ih0 _ _ _ _ _ _ _ _ _ _ _ _ _
   | exact lsa_Newer.mono _ _ _ _ _ _ _ _ _ _ _ _ _
   | exact lsa_Same.mono _ _ _ _ _ _ _ _ _ _ _ _ _
   | exact waypointref32_Newer.mono _ _ _ _ _ _ _ _ _ _ _ _ _
   | exact waypointref32_Same.mono _ _ _ _ _ _ _ _ _ _ _ _ _
   | exact LeO.none _
   | refine LeO.ite ?_ ?_
   | refine LeO.bind ?_ (fun _ => ?_)
def waypointlaw32_LsaNewer.T5 : Bool × List (List Nat × List Nat) := (true, [([], []), ([], []), ([0, 1], [0, 1]), ([], []), ([], []), ([3, 4, 2], [3, 4]), ([2, 5], [2, 5]), ([6, 5], [6]), ([7], [7]), ([7], [7]), ([8, 9, 7, 7], [7, 8, 9]), ([7], [7]), ([7], [7]), ([11, 12, 10, 7], [7, 11, 12]), ([10, 13, 7], [7, 10, 13]), ([7, 14], [7, 14]), ([15, 13, 0, 1, 2, 3, 4, 5, 6, 7, 8, 9, 10, 11, 12, 13, 14, 15], [15])])
def waypointlaw32_LsaNewer.B5 : List Nat := [0, 0, 3, 0, 0, 31, 63, 127, 255, 255, 1023, 255, 255, 8191, 16383, 32767, 65535]
theorem waypointlaw32_LsaNewer.tab5 : rtab .any (opsOf Try.f8 5) = waypointlaw32_LsaNewer.T5 := by kernel_rfl
theorem waypointlaw32_LsaNewer.bits5 : waitsOk waypointlaw32_LsaNewer.T5.2 waypointlaw32_LsaNewer.B5 = true := by kernel_rfl
set_option maxHeartbeats 8000000 in
set_option maxRecDepth 100000 in
theorem waypointlaw32_LsaNewer.calls (k : Nat) (a0_0 : Int) (a0_1 : Int) (a0_2 : Int) (a0_3 : Bool) (A0_4 : Option Addr) (c0_4 : Nat) (l0_4 : List (S43)) (A0_5 : Option Addr) (c0_5 : Nat) (l0_5 : List (S56)) (a1_0 : Int) (a1_1 : Int) (a1_2 : Int) (a1_3 : Bool) (A1_4 : Option Addr) (c1_4 : Nat) (l1_4 : List (S43)) (A1_5 : Option Addr) (c1_5 : Nat) (l1_5 : List (S56)) (r : Bool) (w : World) (hr0_4 : Kd.C k43 w A0_4 l0_4.length l0_4) (hc0_4 : l0_4.length ≤ c0_4) (hr0_5 : Kd.C k56 w A0_5 l0_5.length l0_5) (hc0_5 : l0_5.length ≤ c0_5) (hr1_4 : Kd.C k43 w A1_4 l1_4.length l1_4) (hc1_4 : l1_4.length ≤ c1_4) (hr1_5 : Kd.C k56 w A1_5 l1_5.length l1_5) (hc1_5 : l1_5.length ≤ c1_5) (h : waypointlaw32_LsaNewer.f k a0_0 a0_1 a0_2 a0_3 l0_4 l0_5 a1_0 a1_1 a1_2 a1_3 l1_4 l1_5 = some r) :
  Calls Try.prog 8 #[.agg #[.int .i64 a0_0, .int .i64 a0_1, .int .i64 a0_2, .bool a0_3, .slice A0_4 l0_4.length c0_4, .slice A0_5 l0_5.length c0_5], .agg #[.int .i64 a1_0, .int .i64 a1_1, .int .i64 a1_2, .bool a1_3, .slice A1_4 l1_4.length c1_4, .slice A1_5 l1_5.length c1_5]] w fun e w' => e = .returned (.bool r) ∧ Below w.heap.size w w' := by
 have hu25 := Try.underlying25
 have HR0_4 := Aside0.mk hr0_4
 have HC0_4 := Aside0.mk hc0_4
 clear hr0_4 hc0_4
 have HR0_5 := Aside0.mk hr0_5
 have HC0_5 := Aside0.mk hc0_5
 clear hr0_5 hc0_5
 have HR1_4 := Aside0.mk hr1_4
 have HC1_4 := Aside0.mk hc1_4
 clear hr1_4 hc1_4
 have HR1_5 := Aside0.mk hr1_5
 have HC1_5 := Aside0.mk hc1_5
 clear hr1_5 hc1_5
 have HB := Aside0.mk (Below.refl w.heap.size w)
 have H : ((waypointlaw32_awake.f).bind fun t398 => (if t398 = true then ((waypointref32_Few.f a0_0 a0_1 a0_2 a0_3 l0_4 l0_5).bind fun t399 => (if t399 = true then ((waypointref32_Few.f a1_0 a1_1 a1_2 a1_3 l1_4 l1_5).bind fun t400 => (waypointlaw32_LsaNewer.j0 k (!t400) a0_0 a0_1 a0_2 a0_3 l0_4 l0_5 a1_0 a1_1 a1_2 a1_3 l1_4 l1_5)) else (waypointlaw32_LsaNewer.j0 k true a0_0 a0_1 a0_2 a0_3 l0_4 l0_5 a1_0 a1_1 a1_2 a1_3 l1_4 l1_5))) else (none))) = some r := h
 clear h
 replace H := Option.bind_eq_some_iff.mp H
 obtain ⟨t398, A30, H⟩ := H
 replace H : (if t398 = true then ((waypointref32_Few.f a0_0 a0_1 a0_2 a0_3 l0_4 l0_5).bind fun t399 => (if t399 = true then ((waypointref32_Few.f a1_0 a1_1 a1_2 a1_3 l1_4 l1_5).bind fun t400 => (waypointlaw32_LsaNewer.j0 k (!t400) a0_0 a0_1 a0_2 a0_3 l0_4 l0_5 a1_0 a1_1 a1_2 a1_3 l1_4 l1_5)) else (waypointlaw32_LsaNewer.j0 k true a0_0 a0_1 a0_2 a0_3 l0_4 l0_5 a1_0 a1_1 a1_2 a1_3 l1_4 l1_5))) else (none)) = some r := H
 have A3 := Aside0.mk A30
 clear A30
 by_cases c4 : t398 = true
 ·subst c4
  have H1 : ((waypointref32_Few.f a0_0 a0_1 a0_2 a0_3 l0_4 l0_5).bind fun t399 => (if t399 = true then ((waypointref32_Few.f a1_0 a1_1 a1_2 a1_3 l1_4 l1_5).bind fun t400 => (waypointlaw32_LsaNewer.j0 k (!t400) a0_0 a0_1 a0_2 a0_3 l0_4 l0_5 a1_0 a1_1 a1_2 a1_3 l1_4 l1_5)) else (waypointlaw32_LsaNewer.j0 k true a0_0 a0_1 a0_2 a0_3 l0_4 l0_5 a1_0 a1_1 a1_2 a1_3 l1_4 l1_5))) = some r := by rw [if_pos rfl] at H; exact H
  clear H
  have H := H1
  clear H1
  have HC5 := Aside0.mk H
  clear H
  go_enter Try.func8, Try.ntmps8
  go_upto_region 3 with (first | ((with_reducible refine gate_dst (N := 2) rfl ?_); refine bx_ 2 #[.int .i64 a0_0, .int .i64 a0_1, .int .i64 a0_2, .bool a0_3, .slice A0_4 l0_4.length c0_4, .slice A0_5 l0_5.length c0_5] 25 rfl rfl ?hr ?_; (case hr => go_simp; try rfl); intro gb396 hg w6 hbox hb; have BK396 := Aside0.mk (hbox); have GW396 := gs_ HB hg; have GE396 := gs_ HB hg; replace HB := bs_ HB hb; clear hb hbox hg) | ((with_reducible refine gate_dst (N := 3) rfl ?_); refine bx_ 3 #[.int .i64 a1_0, .int .i64 a1_1, .int .i64 a1_2, .bool a1_3, .slice A1_4 l1_4.length c1_4, .slice A1_5 l1_5.length c1_5] 25 rfl rfl ?hr ?_; (case hr => go_simp; try rfl); intro gb397 hg w7 hbox hb; have BK397 := Aside0.mk (hbox); have GW397 := Aside0.mk ((by rw [hg]; exact (below_size (by repeat (first | (with_reducible first | exact HB.out | apply bU | apply bS GE396.out) | exact HB.out))) : w.heap.size ≤ gb397)); have GE397 := Aside0.mk ((by rw [hg]; exact (below_size (by repeat (first | (with_reducible first | exact HB.out | apply bU | apply bS GE396.out) | exact HB.out))) : w.heap.size ≤ gb397)); have NB396_397 := nl_ BK396 hg; have NB397_396 := ng_ BK396 hg; replace BK396 := bb_ BK396 hb; replace HB := Aside0.mk (below_step (by repeat (first | (with_reducible first | exact HB.out | apply bU | apply bS GE396.out) | exact HB.out)) hb); clear hb hbox hg) | ((with_reducible refine gate_callee (f := 10) rfl ?_); refine goesL_ (some 5) rfl rfl Try.func10 (by kernel_rfl) rfl #[] rfl (by (try simp only [List.map_toArray, List.map_cons, List.map_nil]); first | done | rfl | (simp only [List.length_drop, List.length_take]; rfl)) ?_; (with_reducible refine (waypointlaw32_awake.calls  true _ A3.out).mono ?_); rintro e w8 ⟨rfl, hb⟩; refine ⟨_, rfl, ?_⟩; replace BK396 := bb_ BK396 hb; replace BK397 := bb_ BK397 hb; replace HB := Aside0.mk (below_step (by repeat (first | (with_reducible first | exact HB.out | apply bU | apply bS GE396.out | apply bS GE397.out) | exact HB.out)) hb); (try clear hb); (try clear hb2); (try clear hk); (try clear hi)))
  (try simp only [Act.put, List.setIfInBounds_toArray, List.set_cons_zero, List.set_cons_succ])
  go_cut [14] (fun v14 wc => ∃ (kq : Nat) (x14_4 : Bool), v14 = .bool x14_4 ∧ Aside0 (waypointlaw32_LsaNewer.j0 kq x14_4 a0_0 a0_1 a0_2 a0_3 l0_4 l0_5 a1_0 a1_1 a1_2 a1_3 l1_4 l1_5 = some r) ∧ Aside0 (kq ≤ k) ∧ Aside0 (wc.heap[gb396]? = some (.cells #[.int .i64 a0_0, .int .i64 a0_1, .int .i64 a0_2, .bool a0_3, (.slice A0_4 l0_4.length c0_4), (.slice A0_5 l0_5.length c0_5)] 25 (0, 0))) ∧ Aside0 (wc.heap[gb397]? = some (.cells #[.int .i64 a1_0, .int .i64 a1_1, .int .i64 a1_2, .bool a1_3, (.slice A1_4 l1_4.length c1_4), (.slice A1_5 l1_5.length c1_5)] 25 (0, 0))) ∧ Aside0 (Below w.heap.size w wc))
  case first =>
   have H := HC5.out
   clear HC5
   replace H := Option.bind_eq_some_iff.mp H
   obtain ⟨t399, A90, H⟩ := H
   replace H : (if t399 = true then ((waypointref32_Few.f a1_0 a1_1 a1_2 a1_3 l1_4 l1_5).bind fun t400 => (waypointlaw32_LsaNewer.j0 k (!t400) a0_0 a0_1 a0_2 a0_3 l0_4 l0_5 a1_0 a1_1 a1_2 a1_3 l1_4 l1_5)) else (waypointlaw32_LsaNewer.j0 k true a0_0 a0_1 a0_2 a0_3 l0_4 l0_5 a1_0 a1_1 a1_2 a1_3 l1_4 l1_5)) = some r := H
   have A9 := Aside0.mk A90
   clear A90
   by_cases c10 : t399 = true
   ·subst c10
    have H1 : ((waypointref32_Few.f a1_0 a1_1 a1_2 a1_3 l1_4 l1_5).bind fun t400 => (waypointlaw32_LsaNewer.j0 k (!t400) a0_0 a0_1 a0_2 a0_3 l0_4 l0_5 a1_0 a1_1 a1_2 a1_3 l1_4 l1_5)) = some r := by rw [if_pos rfl] at H; exact H
    clear H
    have H := H1
    clear H1
    replace H := Option.bind_eq_some_iff.mp H
    obtain ⟨t400, A110, H⟩ := H
    replace H : (waypointlaw32_LsaNewer.j0 k (!t400) a0_0 a0_1 a0_2 a0_3 l0_4 l0_5 a1_0 a1_1 a1_2 a1_3 l1_4 l1_5) = some r := H
    have A11 := Aside0.mk A110
    clear A110
    have H' := Aside0.mk H
    clear H
    have hnb12 := NB396_397.out
    have hnc12 := NB397_396.out
    obtain ⟨hcz13_0, hcz13_1, hcz13_2, hcz13_3, hcz13_4, hcz13_5, hfz13_0, hfz13_1, hfz13_2, hfz13_3, hfz13_4, hfz13_5⟩ := c6_ BK396
    go_wp2_with (first | ((with_reducible refine gate_callee (f := 11) rfl ?_); refine goesL_ (some 8) rfl rfl Try.func11 (by kernel_rfl) rfl #[.agg #[.int .i64 a0_0, .int .i64 a0_1, .int .i64 a0_2, .bool a0_3, .slice A0_4 l0_4.length c0_4, .slice A0_5 l0_5.length c0_5]] rfl (by (try simp only [List.map_toArray, List.map_cons, List.map_nil]); first | done | rfl | (simp only [List.length_drop, List.length_take]; rfl)) ?_; (with_reducible refine (waypointref32_Few.calls a0_0 a0_1 a0_2 a0_3 _ _ l0_4 _ _ l0_5 true _ ?side1 ?side2 ?side3 ?side4 A9.out).mono ?_); (case side1 => exact cs_ HR0_4 HB); (case side2 => exact HC0_4.out); (case side3 => exact cs_ HR0_5 HB); (case side4 => exact HC0_5.out); rintro e w14 ⟨rfl, hb⟩; refine ⟨_, rfl, ?_⟩; replace BK396 := bb_ BK396 hb; replace BK397 := bb_ BK397 hb; replace HB := Aside0.mk (below_step (by repeat (first | (with_reducible first | exact HB.out | apply bU | apply bS GE396.out | apply bS GE397.out) | exact HB.out)) hb); (try clear hb); (try clear hb2); (try clear hk); (try clear hi); obtain ⟨hcz15_0, hcz15_1, hcz15_2, hcz15_3, hcz15_4, hcz15_5, hfz15_0, hfz15_1, hfz15_2, hfz15_3, hfz15_4, hfz15_5⟩ := c6_ BK397) | (go_at_call 11; (with_reducible refine (waypointref32_Few.calls a1_0 a1_1 a1_2 a1_3 _ _ l1_4 _ _ l1_5 t400 _ ?side1 ?side2 ?side3 ?side4 A11.out).mono ?_); (case side1 => exact cs_ HR1_4 HB); (case side2 => exact HC1_4.out); (case side3 => exact cs_ HR1_5 HB); (case side4 => exact HC1_5.out); rintro e w16 ⟨rfl, hb⟩; replace BK396 := bb_ BK396 hb; replace BK397 := bb_ BK397 hb; replace HB := Aside0.mk (below_step (by repeat (first | (with_reducible first | exact HB.out | apply bU | apply bS GE396.out | apply bS GE397.out) | exact HB.out)) hb); (try clear hb); (try clear hb2); (try clear hk); (try clear hi)))
    go_meet
    case rel => exact ⟨_, (!t400), (by first | rfl | (simp; done) | (simp [*]; done)), H', ⟨by first | omega | exact Nat.le_refl _⟩, ⟨kb_ BK396⟩, ⟨kb_ BK397⟩, ⟨by repeat (first | (with_reducible first | exact HB.out | apply bU | apply bS GE396.out | apply bS GE397.out) | exact HB.out)⟩⟩
   ·replace c10 := Bool.eq_false_iff.mpr c10
    subst c10
    have H1 : (waypointlaw32_LsaNewer.j0 k true a0_0 a0_1 a0_2 a0_3 l0_4 l0_5 a1_0 a1_1 a1_2 a1_3 l1_4 l1_5) = some r := by rw [if_neg (show ¬ (false = true) by decide)] at H; exact H
    clear H
    have H := H1
    clear H1
    have H' := Aside0.mk H
    clear H
    have hnb17 := NB396_397.out
    have hnc17 := NB397_396.out
    obtain ⟨hcz18_0, hcz18_1, hcz18_2, hcz18_3, hcz18_4, hcz18_5, hfz18_0, hfz18_1, hfz18_2, hfz18_3, hfz18_4, hfz18_5⟩ := c6_ BK396
    go_wp2_with (first | ((with_reducible refine gate_callee (f := 11) rfl ?_); refine goesL_ (some 8) rfl rfl Try.func11 (by kernel_rfl) rfl #[.agg #[.int .i64 a0_0, .int .i64 a0_1, .int .i64 a0_2, .bool a0_3, .slice A0_4 l0_4.length c0_4, .slice A0_5 l0_5.length c0_5]] rfl (by (try simp only [List.map_toArray, List.map_cons, List.map_nil]); first | done | rfl | (simp only [List.length_drop, List.length_take]; rfl)) ?_; (with_reducible refine (waypointref32_Few.calls a0_0 a0_1 a0_2 a0_3 _ _ l0_4 _ _ l0_5 false _ ?side1 ?side2 ?side3 ?side4 A9.out).mono ?_); (case side1 => exact cs_ HR0_4 HB); (case side2 => exact HC0_4.out); (case side3 => exact cs_ HR0_5 HB); (case side4 => exact HC0_5.out); rintro e w19 ⟨rfl, hb⟩; refine ⟨_, rfl, ?_⟩; replace BK396 := bb_ BK396 hb; replace BK397 := bb_ BK397 hb; replace HB := Aside0.mk (below_step (by repeat (first | (with_reducible first | exact HB.out | apply bU | apply bS GE396.out | apply bS GE397.out) | exact HB.out)) hb); (try clear hb); (try clear hb2); (try clear hk); (try clear hi)))
    go_meet
    case rel => exact ⟨_, (true), (by first | rfl | (simp; done) | (simp [*]; done)), H', ⟨by first | omega | exact Nat.le_refl _⟩, ⟨kb_ BK396⟩, ⟨kb_ BK397⟩, ⟨by repeat (first | (with_reducible first | exact HB.out | apply bU | apply bS GE396.out | apply bS GE397.out) | exact HB.out)⟩⟩
  case rest =>
   clear HC5
   (try clear c4)
   obtain ⟨kq, x14_4, rfl, HA, HJ4, BK396, BK397, HB⟩ := hcut
   cases kq with
   | zero => exact absurd HA.out (by simp [waypointlaw32_LsaNewer.j0])
   | succ kj4 =>
    have H := HA.out
    clear HA
    simp only [waypointlaw32_LsaNewer.j0] at H
    by_cases c20 : x14_4 = true
    ·subst c20
     have H1 : (some true) = some r := by rw [if_pos rfl] at H; exact H
     clear H
     have H := H1
     clear H1
     obtain rfl := Option.some.inj H
     go_wp2
     go_ret
     exact ⟨by first | rfl | (simp [errW_none, errW_some] <;> rfl) | (simp [*, errW_none, errW_some] <;> rfl), by repeat (first | (with_reducible first | exact HB.out | apply bU | apply bS GE396.out | apply bS GE397.out) | exact HB.out)⟩
    ·replace c20 := Bool.eq_false_iff.mpr c20
     subst c20
     have H1 : ((lsa_Newer.f kj4 a0_0 a0_1 a0_2 a0_3 l0_4 l0_5 a1_0 a1_1 a1_2 a1_3 l1_4 l1_5).bind fun t401 => ((waypointref32_Newer.f kj4 a0_0 a0_1 a0_2 a0_3 l0_4 l0_5 a1_0 a1_1 a1_2 a1_3 l1_4 l1_5).bind fun t402 => (if t401 = t402 then ((lsa_Same.f kj4 a0_0 a0_1 a0_2 a0_3 l0_4 l0_5 a1_0 a1_1 a1_2 a1_3 l1_4 l1_5).bind fun t403 => ((waypointref32_Same.f kj4 a0_0 a0_1 a0_2 a0_3 l0_4 l0_5 a1_0 a1_1 a1_2 a1_3 l1_4 l1_5).bind fun t404 => (some (t403 == t404)))) else (none)))) = some r := by rw [if_neg (show ¬ (false = true) by decide)] at H; exact H
     clear H
     have H := H1
     clear H1
     replace H := Option.bind_eq_some_iff.mp H
     obtain ⟨t401, A210, H⟩ := H
     replace H : ((waypointref32_Newer.f kj4 a0_0 a0_1 a0_2 a0_3 l0_4 l0_5 a1_0 a1_1 a1_2 a1_3 l1_4 l1_5).bind fun t402 => (if t401 = t402 then ((lsa_Same.f kj4 a0_0 a0_1 a0_2 a0_3 l0_4 l0_5 a1_0 a1_1 a1_2 a1_3 l1_4 l1_5).bind fun t403 => ((waypointref32_Same.f kj4 a0_0 a0_1 a0_2 a0_3 l0_4 l0_5 a1_0 a1_1 a1_2 a1_3 l1_4 l1_5).bind fun t404 => (some (t403 == t404)))) else (none))) = some r := H
     have A21 := Aside0.mk A210
     clear A210
     replace H := Option.bind_eq_some_iff.mp H
     obtain ⟨t402, A220, H⟩ := H
     replace H : (if t401 = t402 then ((lsa_Same.f kj4 a0_0 a0_1 a0_2 a0_3 l0_4 l0_5 a1_0 a1_1 a1_2 a1_3 l1_4 l1_5).bind fun t403 => ((waypointref32_Same.f kj4 a0_0 a0_1 a0_2 a0_3 l0_4 l0_5 a1_0 a1_1 a1_2 a1_3 l1_4 l1_5).bind fun t404 => (some (t403 == t404)))) else (none)) = some r := H
     have A22 := Aside0.mk A220
     clear A220
     by_cases c23 : t401 = t402
     ·rw [if_pos c23] at H
      have c23b0 : (t401 == t402) = true := beq_iff_eq.mpr c23
      have c23b1 : (t401 != t402) = false := bne_eq_false_iff_eq.mpr c23
      clear c23
      replace H := Option.bind_eq_some_iff.mp H
      obtain ⟨t403, A240, H⟩ := H
      replace H : ((waypointref32_Same.f kj4 a0_0 a0_1 a0_2 a0_3 l0_4 l0_5 a1_0 a1_1 a1_2 a1_3 l1_4 l1_5).bind fun t404 => (some (t403 == t404))) = some r := H
      have A24 := Aside0.mk A240
      clear A240
      replace H := Option.bind_eq_some_iff.mp H
      obtain ⟨t404, A250, H⟩ := H
      replace H : (some (t403 == t404)) = some r := H
      have A25 := Aside0.mk A250
      clear A250
      obtain rfl := Option.some.inj H
      try go_wp2
      replace BK396 := Aside0.mk (blk_drew BK396.out)
      replace BK397 := Aside0.mk (blk_drew BK397.out)
      replace HB := Aside0.mk (below_drew1 HB.out)
      refine start_ (n := 17) (S := fun w' => w'.cell? ⟨gb396, 0, none⟩ = some (.int .i64 a0_0) ∧ w'.cell? ⟨gb396, 1, none⟩ = some (.int .i64 a0_1) ∧ w'.cell? ⟨gb396, 2, none⟩ = some (.int .i64 a0_2) ∧ w'.cell? ⟨gb396, 3, none⟩ = some (.bool a0_3) ∧ w'.cell? ⟨gb396, 4, none⟩ = some (.slice A0_4 l0_4.length c0_4) ∧ w'.cell? ⟨gb396, 5, none⟩ = some (.slice A0_5 l0_5.length c0_5) ∧ w'.cell? ⟨gb397, 0, none⟩ = some (.int .i64 a1_0) ∧ w'.cell? ⟨gb397, 1, none⟩ = some (.int .i64 a1_1) ∧ w'.cell? ⟨gb397, 2, none⟩ = some (.int .i64 a1_2) ∧ w'.cell? ⟨gb397, 3, none⟩ = some (.bool a1_3) ∧ w'.cell? ⟨gb397, 4, none⟩ = some (.slice A1_4 l1_4.length c1_4) ∧ w'.cell? ⟨gb397, 5, none⟩ = some (.slice A1_5 l1_5.length c1_5)) (ds := []) #[false, false, false, false, false, false, false, false, false, false, false, false, false, false, false, false, false] (by kernel_rfl) rfl rfl ⟨(blk_cell BK396.out 0).trans rfl, (blk_cell BK396.out 1).trans rfl, (blk_cell BK396.out 2).trans rfl, (blk_cell BK396.out 3).trans rfl, (blk_cell BK396.out 4).trans rfl, (blk_cell BK396.out 5).trans rfl, (blk_cell BK397.out 0).trans rfl, (blk_cell BK397.out 1).trans rfl, (blk_cell BK397.out 2).trans rfl, (blk_cell BK397.out 3).trans rfl, (blk_cell BK397.out 4).trans rfl, (blk_cell BK397.out 5).trans rfl⟩ (fun hHeld => ?_); refine with_tabW waypointlaw32_LsaNewer.tab5 waypointlaw32_LsaNewer.bits5 (fun HT_ HW_ => ?_)
      generalize wc.drew = w26 at BK396 BK397 HB hHeld ⊢
      refine ty 0 15 HT_ HW_ rfl (Or.inl ⟨by rfl, by rintro w' ⟨s0, s1, s2, s3, s4, s5, s6, s7, s8, s9, s10, s11⟩; go_simp; with_reducible rfl⟩) hHeld ?_
      refine ty 1 16 HT_ HW_ rfl (Or.inl ⟨by rfl, by rintro w' ⟨s0, s1, s2, s3, s4, s5, s6, s7, s8, s9, s10, s11⟩; go_simp; with_reducible rfl⟩) hHeld ?_
      refine ty 3 18 HT_ HW_ rfl (Or.inl ⟨by rfl, by rintro w' ⟨s0, s1, s2, s3, s4, s5, s6, s7, s8, s9, s10, s11⟩; go_simp; with_reducible rfl⟩) hHeld ?_
      refine ty 4 19 HT_ HW_ rfl (Or.inl ⟨by rfl, by rintro w' ⟨s0, s1, s2, s3, s4, s5, s6, s7, s8, s9, s10, s11⟩; go_simp; with_reducible rfl⟩) hHeld ?_
      refine one_ (i := 2) (N := some 17) #[true, true, true, true, true, false, false, false, false, false, false, false, false, false, false, false, false] rfl rfl (one_of HT_.out (by kernel_rfl)) (by decide) (fun K hK => ?_)
      refine goes_ Try.func21 (by kernel_rfl) rfl #[.agg #[.int .i64 a0_0, .int .i64 a0_1, .int .i64 a0_2, .bool a0_3, .slice A0_4 l0_4.length c0_4, .slice A0_5 l0_5.length c0_5], .agg #[.int .i64 a1_0, .int .i64 a1_1, .int .i64 a1_2, .bool a1_3, .slice A1_4 l1_4.length c1_4, .slice A1_5 l1_5.length c1_5]] (by rfl) rfl rfl (by (try simp only [List.map_toArray, List.map_cons, List.map_nil]); first | done | rfl | (simp only [List.length_drop, List.length_take]; rfl)) ?_
      with_reducible refine (lsa_Newer.calls kj4 a0_0 a0_1 a0_2 a0_3 _ _ l0_4 _ _ l0_5 a1_0 a1_1 a1_2 a1_3 _ _ l1_4 _ _ l1_5 t401 _ ?side1 ?side2 ?side3 ?side4 ?side5 ?side6 ?side7 ?side8 A21.out).mono ?_
      (case side1 => exact cs_ HR0_4 HB)
      (case side2 => exact HC0_4.out)
      (case side3 => exact cs_ HR0_5 HB)
      (case side4 => exact HC0_5.out)
      (case side5 => exact cs_ HR1_4 HB)
      (case side6 => exact HC1_4.out)
      (case side7 => exact cs_ HR1_5 HB)
      (case side8 => exact HC1_5.out)
      rintro e w27 ⟨rfl, hb⟩
      refine ⟨_, rfl, ?_⟩
      replace BK396 := bb_ BK396 hb
      replace BK397 := bb_ BK397 hb
      replace HB := Aside0.mk (below_step (by repeat (first | (with_reducible first | exact HB.out | apply bU | apply bS GE396.out | apply bS GE397.out) | exact HB.out)) hb)
      (try clear hb)
      (try clear hb2)
      (try clear hk)
      (try clear hi)
      refine hK.out _ _ ⟨(blk_cell BK396.out 0).trans rfl, (blk_cell BK396.out 1).trans rfl, (blk_cell BK396.out 2).trans rfl, (blk_cell BK396.out 3).trans rfl, (blk_cell BK396.out 4).trans rfl, (blk_cell BK396.out 5).trans rfl, (blk_cell BK397.out 0).trans rfl, (blk_cell BK397.out 1).trans rfl, (blk_cell BK397.out 2).trans rfl, (blk_cell BK397.out 3).trans rfl, (blk_cell BK397.out 4).trans rfl, (blk_cell BK397.out 5).trans rfl⟩ (fun hHeld => ?_)
      clear hK K
      refine norm_ (a' := ?_) ?_ ?_
      rotate_left
      ·show Act.put _ (some 17) _ = _
       simp only [Act.put, List.setIfInBounds_toArray, List.set_cons_zero, List.set_cons_succ, i64_w, i32_w]
       rfl
      refine one_ (i := 5) (N := some 20) #[true, true, true, true, true, true, false, false, false, false, false, false, false, false, false, false, false] rfl rfl (one_of HT_.out (by kernel_rfl)) (by decide) (fun K hK => ?_)
      refine goes_ Try.func22 (by kernel_rfl) rfl #[.agg #[.int .i64 a0_0, .int .i64 a0_1, .int .i64 a0_2, .bool a0_3, .slice A0_4 l0_4.length c0_4, .slice A0_5 l0_5.length c0_5], .agg #[.int .i64 a1_0, .int .i64 a1_1, .int .i64 a1_2, .bool a1_3, .slice A1_4 l1_4.length c1_4, .slice A1_5 l1_5.length c1_5]] (by rfl) rfl rfl (by (try simp only [List.map_toArray, List.map_cons, List.map_nil]); first | done | rfl | (simp only [List.length_drop, List.length_take]; rfl)) ?_
      with_reducible refine (waypointref32_Newer.calls kj4 a0_0 a0_1 a0_2 a0_3 _ _ l0_4 _ _ l0_5 a1_0 a1_1 a1_2 a1_3 _ _ l1_4 _ _ l1_5 t402 _ ?side1 ?side2 ?side3 ?side4 ?side5 ?side6 ?side7 ?side8 A22.out).mono ?_
      (case side1 => exact cs_ HR0_4 HB)
      (case side2 => exact HC0_4.out)
      (case side3 => exact cs_ HR0_5 HB)
      (case side4 => exact HC0_5.out)
      (case side5 => exact cs_ HR1_4 HB)
      (case side6 => exact HC1_4.out)
      (case side7 => exact cs_ HR1_5 HB)
      (case side8 => exact HC1_5.out)
      rintro e w28 ⟨rfl, hb⟩
      refine ⟨_, rfl, ?_⟩
      replace BK396 := bb_ BK396 hb
      replace BK397 := bb_ BK397 hb
      replace HB := Aside0.mk (below_step (by repeat (first | (with_reducible first | exact HB.out | apply bU | apply bS GE396.out | apply bS GE397.out) | exact HB.out)) hb)
      (try clear hb)
      (try clear hb2)
      (try clear hk)
      (try clear hi)
      refine hK.out _ _ ⟨(blk_cell BK396.out 0).trans rfl, (blk_cell BK396.out 1).trans rfl, (blk_cell BK396.out 2).trans rfl, (blk_cell BK396.out 3).trans rfl, (blk_cell BK396.out 4).trans rfl, (blk_cell BK396.out 5).trans rfl, (blk_cell BK397.out 0).trans rfl, (blk_cell BK397.out 1).trans rfl, (blk_cell BK397.out 2).trans rfl, (blk_cell BK397.out 3).trans rfl, (blk_cell BK397.out 4).trans rfl, (blk_cell BK397.out 5).trans rfl⟩ (fun hHeld => ?_)
      clear hK K
      refine norm_ (a' := ?_) ?_ ?_
      rotate_left
      ·show Act.put _ (some 20) _ = _
       simp only [Act.put, List.setIfInBounds_toArray, List.set_cons_zero, List.set_cons_succ, i64_w, i32_w]
       rfl
      refine py 6 21 HT_ ?_
      refine py 7 22 HT_ ?_
      refine ty 8 23 HT_ HW_ rfl (Or.inl ⟨by rfl, by rintro w' ⟨s0, s1, s2, s3, s4, s5, s6, s7, s8, s9, s10, s11⟩; go_simp; with_reducible rfl⟩) hHeld ?_
      refine ty 9 24 HT_ HW_ rfl (Or.inl ⟨by rfl, by rintro w' ⟨s0, s1, s2, s3, s4, s5, s6, s7, s8, s9, s10, s11⟩; go_simp; with_reducible rfl⟩) hHeld ?_
      refine ty 11 26 HT_ HW_ rfl (Or.inl ⟨by rfl, by rintro w' ⟨s0, s1, s2, s3, s4, s5, s6, s7, s8, s9, s10, s11⟩; go_simp; with_reducible rfl⟩) hHeld ?_
      refine ty 12 27 HT_ HW_ rfl (Or.inl ⟨by rfl, by rintro w' ⟨s0, s1, s2, s3, s4, s5, s6, s7, s8, s9, s10, s11⟩; go_simp; with_reducible rfl⟩) hHeld ?_
      refine one_ (i := 10) (N := some 25) #[true, true, true, true, true, true, true, true, true, true, true, true, true, false, false, false, false] rfl rfl (one_of HT_.out (by kernel_rfl)) (by decide) (fun K hK => ?_)
      refine goes_ Try.func23 (by kernel_rfl) rfl #[.agg #[.int .i64 a0_0, .int .i64 a0_1, .int .i64 a0_2, .bool a0_3, .slice A0_4 l0_4.length c0_4, .slice A0_5 l0_5.length c0_5], .agg #[.int .i64 a1_0, .int .i64 a1_1, .int .i64 a1_2, .bool a1_3, .slice A1_4 l1_4.length c1_4, .slice A1_5 l1_5.length c1_5]] (by rfl) rfl rfl (by (try simp only [List.map_toArray, List.map_cons, List.map_nil]); first | done | rfl | (simp only [List.length_drop, List.length_take]; rfl)) ?_
      with_reducible refine (lsa_Same.calls kj4 a0_0 a0_1 a0_2 a0_3 _ _ l0_4 _ _ l0_5 a1_0 a1_1 a1_2 a1_3 _ _ l1_4 _ _ l1_5 t403 _ ?side1 ?side2 ?side3 ?side4 ?side5 ?side6 ?side7 ?side8 A24.out).mono ?_
      (case side1 => exact cs_ HR0_4 HB)
      (case side2 => exact HC0_4.out)
      (case side3 => exact cs_ HR0_5 HB)
      (case side4 => exact HC0_5.out)
      (case side5 => exact cs_ HR1_4 HB)
      (case side6 => exact HC1_4.out)
      (case side7 => exact cs_ HR1_5 HB)
      (case side8 => exact HC1_5.out)
      rintro e w29 ⟨rfl, hb⟩
      refine ⟨_, rfl, ?_⟩
      replace BK396 := bb_ BK396 hb
      replace BK397 := bb_ BK397 hb
      replace HB := Aside0.mk (below_step (by repeat (first | (with_reducible first | exact HB.out | apply bU | apply bS GE396.out | apply bS GE397.out) | exact HB.out)) hb)
      (try clear hb)
      (try clear hb2)
      (try clear hk)
      (try clear hi)
      refine hK.out _ _ ⟨(blk_cell BK396.out 0).trans rfl, (blk_cell BK396.out 1).trans rfl, (blk_cell BK396.out 2).trans rfl, (blk_cell BK396.out 3).trans rfl, (blk_cell BK396.out 4).trans rfl, (blk_cell BK396.out 5).trans rfl, (blk_cell BK397.out 0).trans rfl, (blk_cell BK397.out 1).trans rfl, (blk_cell BK397.out 2).trans rfl, (blk_cell BK397.out 3).trans rfl, (blk_cell BK397.out 4).trans rfl, (blk_cell BK397.out 5).trans rfl⟩ (fun hHeld => ?_)
      clear hK K
      refine norm_ (a' := ?_) ?_ ?_
      rotate_left
      ·show Act.put _ (some 25) _ = _
       simp only [Act.put, List.setIfInBounds_toArray, List.set_cons_zero, List.set_cons_succ, i64_w, i32_w]
       rfl
      refine one_ (i := 13) (N := some 28) #[true, true, true, true, true, true, true, true, true, true, true, true, true, true, false, false, false] rfl rfl (one_of HT_.out (by kernel_rfl)) (by decide) (fun K hK => ?_)
      refine goes_ Try.func24 (by kernel_rfl) rfl #[.agg #[.int .i64 a0_0, .int .i64 a0_1, .int .i64 a0_2, .bool a0_3, .slice A0_4 l0_4.length c0_4, .slice A0_5 l0_5.length c0_5], .agg #[.int .i64 a1_0, .int .i64 a1_1, .int .i64 a1_2, .bool a1_3, .slice A1_4 l1_4.length c1_4, .slice A1_5 l1_5.length c1_5]] (by rfl) rfl rfl (by (try simp only [List.map_toArray, List.map_cons, List.map_nil]); first | done | rfl | (simp only [List.length_drop, List.length_take]; rfl)) ?_
      with_reducible refine (waypointref32_Same.calls kj4 a0_0 a0_1 a0_2 a0_3 _ _ l0_4 _ _ l0_5 a1_0 a1_1 a1_2 a1_3 _ _ l1_4 _ _ l1_5 t404 _ ?side1 ?side2 ?side3 ?side4 ?side5 ?side6 ?side7 ?side8 A25.out).mono ?_
      (case side1 => exact cs_ HR0_4 HB)
      (case side2 => exact HC0_4.out)
      (case side3 => exact cs_ HR0_5 HB)
      (case side4 => exact HC0_5.out)
      (case side5 => exact cs_ HR1_4 HB)
      (case side6 => exact HC1_4.out)
      (case side7 => exact cs_ HR1_5 HB)
      (case side8 => exact HC1_5.out)
      rintro e w30 ⟨rfl, hb⟩
      refine ⟨_, rfl, ?_⟩
      replace BK396 := bb_ BK396 hb
      replace BK397 := bb_ BK397 hb
      replace HB := Aside0.mk (below_step (by repeat (first | (with_reducible first | exact HB.out | apply bU | apply bS GE396.out | apply bS GE397.out) | exact HB.out)) hb)
      (try clear hb)
      (try clear hb2)
      (try clear hk)
      (try clear hi)
      refine hK.out _ _ ⟨(blk_cell BK396.out 0).trans rfl, (blk_cell BK396.out 1).trans rfl, (blk_cell BK396.out 2).trans rfl, (blk_cell BK396.out 3).trans rfl, (blk_cell BK396.out 4).trans rfl, (blk_cell BK396.out 5).trans rfl, (blk_cell BK397.out 0).trans rfl, (blk_cell BK397.out 1).trans rfl, (blk_cell BK397.out 2).trans rfl, (blk_cell BK397.out 3).trans rfl, (blk_cell BK397.out 4).trans rfl, (blk_cell BK397.out 5).trans rfl⟩ (fun hHeld => ?_)
      clear hK K
      refine norm_ (a' := ?_) ?_ ?_
      rotate_left
      ·show Act.put _ (some 28) _ = _
       simp only [Act.put, List.setIfInBounds_toArray, List.set_cons_zero, List.set_cons_succ, i64_w, i32_w]
       rfl
      refine py 14 29 HT_ ?_
      refine py 15 30 HT_ ?_
      refine py 16 4 HT_ ?_
      refine done_ (done_of HT_.out (by kernel_rfl)) ?_
      try go_wp2
      go_ret
      exact ⟨by first | rfl | (simp [errW_none, errW_some] <;> rfl) | (simp [*, errW_none, errW_some] <;> rfl), by repeat (first | (with_reducible first | exact HB.out | apply bU | apply bS GE396.out | apply bS GE397.out) | exact HB.out)⟩
     ·rw [if_neg c23] at H
      exact absurd H (by simp)
 ·replace c4 := Bool.eq_false_iff.mpr c4
  subst c4
  have H1 : (none) = some r := by rw [if_neg (show ¬ (false = true) by decide)] at H; exact H
  clear H
  have H := H1
  clear H1
  exact absurd H (by simp)

end Go.Proofs.Ytmknjjfdlkgidaa.HLsc
