-- LAID by wip/hand.py, a program of this repository, over the kit's print: contracts of our own are put in. Lean checks it.
import Derived.Test.YtmknjjfdlkgidaaHLscx0
import Derived.Test.YtmknjjfdlkgidaaHLscx4
import Derived.Test.YtmknjjfdlkgidaaHLscx6
import Derived.Test.YtmknjjfdlkgidaaHLscx7
import Derived.Test.YtmknjjfdlkgidaaHLscx9
import Derived.Test.YtmknjjfdlkgidaaHLscx10
namespace Go.Proofs.Ytmknjjfdlkgidaa.HLsc
open Go.RowKit Go.Proofs.YtmknjjfdlkgidaaW.PrintWords Go.Proofs.YtmknjjfdlkgidaaW.PrintLast Go.Proofs.YtmknjjfdlkgidaaW.PrintMore
attribute [local go_sem] gtr_str leq_str max2_int min2_int max_two min_two max_three min_three max_four min_four   -- for this text's walks alone
set_option linter.unusedVariables false
set_option linter.unusedSimpArgs false

/-! ### waypointlaw32_LsaRoundTrip: function 5 -/
mutual
def waypointlaw32_LsaRoundTrip.j0 : Nat → List Int → Bool → Int → Int → Int → Bool → List (S43) → List (S56) → Option (Bool)
 | 0, _, _, _, _, _, _, _, _ => none
 | k + 1, x1, x22, x406000, x406001, x406002, x406003, x406004, x406005 => if x22 = true then (some true) else ((lsa_Encode.f k x406000 x406001 x406002 x406003 x406004 x406005).bind fun bt408 => (if bt408.2 = 0 then ((lsa_Decode.f k bt408.1).bind fun bt412 => (if bt412.2.2.2.2.2.2 = 0 then ((waypointref32_Equal.f k x406000 x406001 x406002 x406003 x406004 x406005 bt412.1 bt412.2.1 bt412.2.2.1 bt412.2.2.2.1 bt412.2.2.2.2.1 bt412.2.2.2.2.2.1).bind fun t424 => (if t424 = true then (waypointlaw32_LsaRoundTrip.j1 k x1) else (none))) else (none))) else (waypointlaw32_LsaRoundTrip.j1 k x1)))
def waypointlaw32_LsaRoundTrip.j1 : Nat → List Int → Option (Bool)
 | 0, _ => none
 | k + 1, x1 => (lsa_Decode.f k x1).bind fun bt425 => (if bt425.2.2.2.2.2.2 = 0 then ((lsa_Encode.f k bt425.1 bt425.2.1 bt425.2.2.1 bt425.2.2.2.1 bt425.2.2.2.2.1 bt425.2.2.2.2.2.1).bind fun bt438 => (if bt438.2 = 0 then (if (strOfNums bt438.1).toList = (strOfNums x1).toList then ((lsa_Valid.f k bt425.1 bt425.2.1 bt425.2.2.1 bt425.2.2.2.1 bt425.2.2.2.2.1 bt425.2.2.2.2.2.1).bind fun t442 => (some t442)) else (none)) else (none))) else ((waypointref32_Equal.f k bt425.1 bt425.2.1 bt425.2.2.1 bt425.2.2.2.1 bt425.2.2.2.2.1 bt425.2.2.2.2.2.1 0 0 0 false ([] : List (S43)) ([] : List (S56))).bind fun t437 => (some t437)))
end
def waypointlaw32_LsaRoundTrip.f (k : Nat) (a0_0 : Int) (a0_1 : Int) (a0_2 : Int) (a0_3 : Bool) (l0_4 : List (S43)) (l0_5 : List (S56)) (l1 : List Int) : Option (Bool) := (waypointlaw32_awake.f).bind fun t406 => (if t406 = true then ((waypointref32_Few.f a0_0 a0_1 a0_2 a0_3 l0_4 l0_5).bind fun t407 => (if t407 = true then (waypointlaw32_LsaRoundTrip.j0 k l1 (decide ((l1.length : Int) > 500)) a0_0 a0_1 a0_2 a0_3 l0_4 l0_5) else (waypointlaw32_LsaRoundTrip.j0 k l1 true a0_0 a0_1 a0_2 a0_3 l0_4 l0_5))) else (none))
theorem waypointlaw32_LsaRoundTrip.mono_l : ∀ k, (∀ y0 y1 y2 y3 y4 y5 y6 y7, LeO (waypointlaw32_LsaRoundTrip.j0 k y0 y1 y2 y3 y4 y5 y6 y7) (waypointlaw32_LsaRoundTrip.j0 (k + 1) y0 y1 y2 y3 y4 y5 y6 y7)) ∧ (∀ y0, LeO (waypointlaw32_LsaRoundTrip.j1 k y0) (waypointlaw32_LsaRoundTrip.j1 (k + 1) y0))
 | 0 => ⟨fun _ _ _ _ _ _ _ _ r h => by simp [waypointlaw32_LsaRoundTrip.j0] at h, fun _ r h => by simp [waypointlaw32_LsaRoundTrip.j1] at h⟩
 | k + 1 => by
  obtain ⟨ih0, ih1⟩ := waypointlaw32_LsaRoundTrip.mono_l k
  refine ⟨?_, ?_⟩
  ·intro y0 y1 y2 y3 y4 y5 y6 y7
   unfold waypointlaw32_LsaRoundTrip.j0
   repeat' first
   | (with_reducible exact ih0 _ _ _ _ _ _ _ _)
   | (with_reducible exact ih1 _)
   | (with_reducible exact lsa_Decode.mono _ _)
   | (with_reducible exact lsa_Encode.mono _ _ _ _ _ _ _)
   | (with_reducible exact lsa_Valid.mono _ _ _ _ _ _ _)
   | (with_reducible exact waypointref32_Equal.mono _ _ _ _ _ _ _ _ _ _ _ _ _)
   | (with_reducible exact LeO.refl _)
   | (with_reducible exact LeO.none _)
   | (with_reducible refine LeO.ite ?_ ?_)
   | (with_reducible refine LeO.bind ?_ (fun _ => ?_))
   | exact ih0 _ _ _ _ _ _ _ _
   | exact ih1 _
   | exact lsa_Decode.mono _ _
   | exact lsa_Encode.mono _ _ _ _ _ _ _
   | exact lsa_Valid.mono _ _ _ _ _ _ _
   | exact waypointref32_Equal.mono _ _ _ _ _ _ _ _ _ _ _ _ _
   | exact LeO.none _
   | refine LeO.ite ?_ ?_
   | refine LeO.bind ?_ (fun _ => ?_)
  ·intro y0
   unfold waypointlaw32_LsaRoundTrip.j1
   repeat' first
   | (with_reducible exact ih0 _ _ _ _ _ _ _ _)
   | (with_reducible exact ih1 _)
   | (with_reducible exact lsa_Decode.mono _ _)
   | (with_reducible exact lsa_Encode.mono _ _ _ _ _ _ _)
   | (with_reducible exact lsa_Valid.mono _ _ _ _ _ _ _)
   | (with_reducible exact waypointref32_Equal.mono _ _ _ _ _ _ _ _ _ _ _ _ _)
   | (with_reducible exact LeO.refl _)
   | (with_reducible exact LeO.none _)
   | (with_reducible refine LeO.ite ?_ ?_)
   | (with_reducible refine LeO.bind ?_ (fun _ => ?_))
   | exact ih0 _ _ _ _ _ _ _ _
   | exact ih1 _
   | exact lsa_Decode.mono _ _
   | exact lsa_Encode.mono _ _ _ _ _ _ _
   | exact lsa_Valid.mono _ _ _ _ _ _ _
   | exact waypointref32_Equal.mono _ _ _ _ _ _ _ _ _ _ _ _ _
   | exact LeO.none _
   | refine LeO.ite ?_ ?_
   | refine LeO.bind ?_ (fun _ => ?_)
theorem waypointlaw32_LsaRoundTrip.mono : ∀ a0 a1 a2 a3 a4 a5 a6 k, LeO (waypointlaw32_LsaRoundTrip.f k a0 a1 a2 a3 a4 a5 a6) (waypointlaw32_LsaRoundTrip.f (k + 1) a0 a1 a2 a3 a4 a5 a6) := by
 intro a0 a1 a2 a3 a4 a5 a6 k
 obtain ⟨ih0, ih1⟩ := waypointlaw32_LsaRoundTrip.mono_l k
 unfold waypointlaw32_LsaRoundTrip.f
 repeat' first
   | (with_reducible exact ih0 _ _ _ _ _ _ _ _)
   | (with_reducible exact ih1 _)
   | (with_reducible exact lsa_Decode.mono _ _)
   | (with_reducible exact lsa_Encode.mono _ _ _ _ _ _ _)
   | (with_reducible exact lsa_Valid.mono _ _ _ _ _ _ _)
   | (with_reducible exact waypointref32_Equal.mono _ _ _ _ _ _ _ _ _ _ _ _ _)
   | (with_reducible exact LeO.refl _)
   | (with_reducible exact LeO.none _)
   | (with_reducible refine LeO.ite ?_ ?_)
   | (with_reducible refine LeO.bind ?_ (fun _ => ?_))
   | exact ih0 _ _ _ _ _ _ _ _
   | exact ih1 _
   | exact lsa_Decode.mono _ _
   | exact lsa_Encode.mono _ _ _ _ _ _ _
   | exact lsa_Valid.mono _ _ _ _ _ _ _
   | exact waypointref32_Equal.mono _ _ _ _ _ _ _ _ _ _ _ _ _
   | exact LeO.none _
   | refine LeO.ite ?_ ?_
   | refine LeO.bind ?_ (fun _ => ?_)
set_option maxHeartbeats 8000000 in
set_option maxRecDepth 100000 in
theorem waypointlaw32_LsaRoundTrip.calls (k : Nat) (a0_0 : Int) (a0_1 : Int) (a0_2 : Int) (a0_3 : Bool) (A0_4 : Option Addr) (c0_4 : Nat) (l0_4 : List (S43)) (A0_5 : Option Addr) (c0_5 : Nat) (l0_5 : List (S56)) (A1 : Option Addr) (c1 : Nat) (l1 : List Int) (r : Bool) (w : World) (hr0_4 : Kd.C k43 w A0_4 l0_4.length l0_4) (hc0_4 : l0_4.length ≤ c0_4) (hr0_5 : Kd.C k56 w A0_5 l0_5.length l0_5) (hc0_5 : l0_5.length ≤ c0_5) (hr1 : Kd.C (Kd.int .u8) w A1 l1.length l1) (hc1 : l1.length ≤ c1) (h : waypointlaw32_LsaRoundTrip.f k a0_0 a0_1 a0_2 a0_3 l0_4 l0_5 l1 = some r) :
  Calls Try.prog 5 #[.agg #[.int .i64 a0_0, .int .i64 a0_1, .int .i64 a0_2, .bool a0_3, .slice A0_4 l0_4.length c0_4, .slice A0_5 l0_5.length c0_5], .slice A1 l1.length c1] w fun e w' => e = .returned (.bool r) ∧ Below w.heap.size w w' := by
 have hu25 := Try.underlying25
 have HR0_4 := Aside0.mk hr0_4
 have HC0_4 := Aside0.mk hc0_4
 clear hr0_4 hc0_4
 have HR0_5 := Aside0.mk hr0_5
 have HC0_5 := Aside0.mk hc0_5
 clear hr0_5 hc0_5
 have HR1 := Aside0.mk hr1
 have HC1 := Aside0.mk hc1
 clear hr1 hc1
 have HB := Aside0.mk (Below.refl w.heap.size w)
 have H : ((waypointlaw32_awake.f).bind fun t406 => (if t406 = true then ((waypointref32_Few.f a0_0 a0_1 a0_2 a0_3 l0_4 l0_5).bind fun t407 => (if t407 = true then (waypointlaw32_LsaRoundTrip.j0 k l1 (decide ((l1.length : Int) > 500)) a0_0 a0_1 a0_2 a0_3 l0_4 l0_5) else (waypointlaw32_LsaRoundTrip.j0 k l1 true a0_0 a0_1 a0_2 a0_3 l0_4 l0_5))) else (none))) = some r := h
 clear h
 replace H := Option.bind_eq_some_iff.mp H
 obtain ⟨t406, A30, H⟩ := H
 replace H : (if t406 = true then ((waypointref32_Few.f a0_0 a0_1 a0_2 a0_3 l0_4 l0_5).bind fun t407 => (if t407 = true then (waypointlaw32_LsaRoundTrip.j0 k l1 (decide ((l1.length : Int) > 500)) a0_0 a0_1 a0_2 a0_3 l0_4 l0_5) else (waypointlaw32_LsaRoundTrip.j0 k l1 true a0_0 a0_1 a0_2 a0_3 l0_4 l0_5))) else (none)) = some r := H
 have A3 := Aside0.mk A30
 clear A30
 by_cases c4 : t406 = true
 ·subst c4
  have H1 : ((waypointref32_Few.f a0_0 a0_1 a0_2 a0_3 l0_4 l0_5).bind fun t407 => (if t407 = true then (waypointlaw32_LsaRoundTrip.j0 k l1 (decide ((l1.length : Int) > 500)) a0_0 a0_1 a0_2 a0_3 l0_4 l0_5) else (waypointlaw32_LsaRoundTrip.j0 k l1 true a0_0 a0_1 a0_2 a0_3 l0_4 l0_5))) = some r := by rw [if_pos rfl] at H; exact H
  clear H
  have H := H1
  clear H1
  have HC5 := Aside0.mk H
  clear H
  go_enter Try.func5, Try.ntmps5
  go_upto_region 3 with (first | ((with_reducible refine gate_dst (N := 2) rfl ?_); (try (refine gate_guard (by rfl) ?_; dsimp only)); refine box_event ?hg (N := 2) ?hd (cs := #[.int .i64 a0_0, .int .i64 a0_1, .int .i64 a0_2, .bool a0_3, .slice A0_4 l0_4.length c0_4, .slice A0_5 l0_5.length c0_5]) (t := 25) ?hr ?_; (case hd => rfl); (case hg => rfl); (case hr => first | (go_simp; done) | (go_simp; rfl)); intro gb405 hg w6 hbox hb; have BK405 := Aside0.mk (hbox); have GW405 := gs_ HB hg; have GE405 := gs_ HB hg; replace HB := bs_ HB hb; clear hb hbox hg) | ((with_reducible refine gate_callee (f := 10) rfl ?_); refine goesL_ (some 13) rfl rfl Try.func10 (by kernel_rfl) rfl #[] rfl (by (try simp only [List.map_toArray, List.map_cons, List.map_nil]); first | done | rfl | (simp only [List.length_drop, List.length_take]; rfl)) ?_; (with_reducible refine (waypointlaw32_awake.calls  true _ A3.out).mono ?_); rintro e w7 ⟨rfl, hb⟩; refine ⟨_, rfl, ?_⟩; replace BK405 := bb_ BK405 hb; replace HB := Aside0.mk (below_step (by repeat (first | (with_reducible first | exact HB.out | apply bA | apply bN | apply bD | apply bS GE405.out) | exact HB.out)) hb); (try clear hb); (try clear hb2); (try clear hk); (try clear hi)))
  (try simp only [Act.put, List.setIfInBounds_toArray, List.set_cons_zero, List.set_cons_succ])
  go_cut [22] (fun v22 wc => ∃ (kq : Nat) (x22_4 : Bool), v22 = .bool x22_4 ∧ Aside0 (waypointlaw32_LsaRoundTrip.j0 kq l1 x22_4 a0_0 a0_1 a0_2 a0_3 l0_4 l0_5 = some r) ∧ Aside0 (kq ≤ k) ∧ Aside0 (wc.heap[gb405]? = some (.cells #[.int .i64 a0_0, .int .i64 a0_1, .int .i64 a0_2, .bool a0_3, (.slice A0_4 l0_4.length c0_4), (.slice A0_5 l0_5.length c0_5)] 25 (0, 0))) ∧ Aside0 (Below w.heap.size w wc))
  case first =>
   have H := HC5.out
   clear HC5
   replace H := Option.bind_eq_some_iff.mp H
   obtain ⟨t407, A80, H⟩ := H
   replace H : (if t407 = true then (waypointlaw32_LsaRoundTrip.j0 k l1 (decide ((l1.length : Int) > 500)) a0_0 a0_1 a0_2 a0_3 l0_4 l0_5) else (waypointlaw32_LsaRoundTrip.j0 k l1 true a0_0 a0_1 a0_2 a0_3 l0_4 l0_5)) = some r := H
   have A8 := Aside0.mk A80
   clear A80
   by_cases c9 : t407 = true
   ·subst c9
    have H1 : (waypointlaw32_LsaRoundTrip.j0 k l1 (decide ((l1.length : Int) > 500)) a0_0 a0_1 a0_2 a0_3 l0_4 l0_5) = some r := by rw [if_pos rfl] at H; exact H
    clear H
    have H := H1
    clear H1
    have H' := Aside0.mk H
    clear H
    obtain ⟨hcz10_0, hcz10_1, hcz10_2, hcz10_3, hcz10_4, hcz10_5, hfz10_0, hfz10_1, hfz10_2, hfz10_3, hfz10_4, hfz10_5⟩ := c6_ BK405
    go_wp2_with (first | ((with_reducible refine gate_callee (f := 11) rfl ?_); refine goesL_ (some 16) rfl rfl Try.func11 (by kernel_rfl) rfl #[.agg #[.int .i64 a0_0, .int .i64 a0_1, .int .i64 a0_2, .bool a0_3, .slice A0_4 l0_4.length c0_4, .slice A0_5 l0_5.length c0_5]] rfl (by (try simp only [List.map_toArray, List.map_cons, List.map_nil]); first | done | rfl | (simp only [List.length_drop, List.length_take]; rfl)) ?_; (with_reducible refine (waypointref32_Few.calls a0_0 a0_1 a0_2 a0_3 _ _ l0_4 _ _ l0_5 true _ ?side1 ?side2 ?side3 ?side4 A8.out).mono ?_); (case side1 => exact cs_ HR0_4 HB); (case side2 => exact HC0_4.out); (case side3 => exact cs_ HR0_5 HB); (case side4 => exact HC0_5.out); rintro e w11 ⟨rfl, hb⟩; refine ⟨_, rfl, ?_⟩; replace BK405 := bb_ BK405 hb; replace HB := Aside0.mk (below_step (by repeat (first | (with_reducible first | exact HB.out | apply bA | apply bN | apply bD | apply bS GE405.out) | exact HB.out)) hb); (try clear hb); (try clear hb2); (try clear hk); (try clear hi)))
    go_meet
    case rel => exact ⟨_, (decide ((l1.length : Int) > 500)), (by first | rfl | (simp; done) | (simp [*]; done)), H', ⟨by first | omega | exact Nat.le_refl _⟩, ⟨kb_ BK405⟩, ⟨by repeat (first | (with_reducible first | exact HB.out | apply bA | apply bN | apply bD | apply bS GE405.out) | exact HB.out)⟩⟩
   ·replace c9 := Bool.eq_false_iff.mpr c9
    subst c9
    have H1 : (waypointlaw32_LsaRoundTrip.j0 k l1 true a0_0 a0_1 a0_2 a0_3 l0_4 l0_5) = some r := by rw [if_neg (show ¬ (false = true) by decide)] at H; exact H
    clear H
    have H := H1
    clear H1
    have H' := Aside0.mk H
    clear H
    obtain ⟨hcz12_0, hcz12_1, hcz12_2, hcz12_3, hcz12_4, hcz12_5, hfz12_0, hfz12_1, hfz12_2, hfz12_3, hfz12_4, hfz12_5⟩ := c6_ BK405
    go_wp2_with (first | ((with_reducible refine gate_callee (f := 11) rfl ?_); refine goesL_ (some 16) rfl rfl Try.func11 (by kernel_rfl) rfl #[.agg #[.int .i64 a0_0, .int .i64 a0_1, .int .i64 a0_2, .bool a0_3, .slice A0_4 l0_4.length c0_4, .slice A0_5 l0_5.length c0_5]] rfl (by (try simp only [List.map_toArray, List.map_cons, List.map_nil]); first | done | rfl | (simp only [List.length_drop, List.length_take]; rfl)) ?_; (with_reducible refine (waypointref32_Few.calls a0_0 a0_1 a0_2 a0_3 _ _ l0_4 _ _ l0_5 false _ ?side1 ?side2 ?side3 ?side4 A8.out).mono ?_); (case side1 => exact cs_ HR0_4 HB); (case side2 => exact HC0_4.out); (case side3 => exact cs_ HR0_5 HB); (case side4 => exact HC0_5.out); rintro e w13 ⟨rfl, hb⟩; refine ⟨_, rfl, ?_⟩; replace BK405 := bb_ BK405 hb; replace HB := Aside0.mk (below_step (by repeat (first | (with_reducible first | exact HB.out | apply bA | apply bN | apply bD | apply bS GE405.out) | exact HB.out)) hb); (try clear hb); (try clear hb2); (try clear hk); (try clear hi)))
    go_meet
    case rel => exact ⟨_, (true), (by first | rfl | (simp; done) | (simp [*]; done)), H', ⟨by first | omega | exact Nat.le_refl _⟩, ⟨kb_ BK405⟩, ⟨by repeat (first | (with_reducible first | exact HB.out | apply bA | apply bN | apply bD | apply bS GE405.out) | exact HB.out)⟩⟩
  case rest =>
   clear HC5
   (try clear c1); (try clear c4)
   obtain ⟨kq, x22_4, rfl, HA, HJ4, BK405, HB⟩ := hcut
   cases kq with
   | zero => exact absurd HA.out (by simp [waypointlaw32_LsaRoundTrip.j0])
   | succ kj4 =>
    have H := HA.out
    clear HA
    simp only [waypointlaw32_LsaRoundTrip.j0] at H
    by_cases c14 : x22_4 = true
    ·subst c14
     have H1 : (some true) = some r := by rw [if_pos rfl] at H; exact H
     clear H
     have H := H1
     clear H1
     obtain rfl := Option.some.inj H
     go_wp2
     go_ret
     exact ⟨by first | rfl | (simp [errW_none, errW_some] <;> rfl) | (simp [*, errW_none, errW_some] <;> rfl), by repeat (first | (with_reducible first | exact HB.out | apply bA | apply bN | apply bD | apply bS GE405.out) | exact HB.out)⟩
    ·replace c14 := Bool.eq_false_iff.mpr c14
     subst c14
     have H1 : ((lsa_Encode.f kj4 a0_0 a0_1 a0_2 a0_3 l0_4 l0_5).bind fun bt408 => (if bt408.2 = 0 then ((lsa_Decode.f kj4 bt408.1).bind fun bt412 => (if bt412.2.2.2.2.2.2 = 0 then ((waypointref32_Equal.f kj4 a0_0 a0_1 a0_2 a0_3 l0_4 l0_5 bt412.1 bt412.2.1 bt412.2.2.1 bt412.2.2.2.1 bt412.2.2.2.2.1 bt412.2.2.2.2.2.1).bind fun t424 => (if t424 = true then (waypointlaw32_LsaRoundTrip.j1 kj4 l1) else (none))) else (none))) else (waypointlaw32_LsaRoundTrip.j1 kj4 l1))) = some r := by rw [if_neg (show ¬ (false = true) by decide)] at H; exact H
     clear H
     have H := H1
     clear H1
     replace H := Option.bind_eq_some_iff.mp H
     obtain ⟨⟨t408, t411⟩, A150, H⟩ := H
     replace H : (if t411 = 0 then ((lsa_Decode.f kj4 t408).bind fun bt412 => (if bt412.2.2.2.2.2.2 = 0 then ((waypointref32_Equal.f kj4 a0_0 a0_1 a0_2 a0_3 l0_4 l0_5 bt412.1 bt412.2.1 bt412.2.2.1 bt412.2.2.2.1 bt412.2.2.2.2.1 bt412.2.2.2.2.2.1).bind fun t424 => (if t424 = true then (waypointlaw32_LsaRoundTrip.j1 kj4 l1) else (none))) else (none))) else (waypointlaw32_LsaRoundTrip.j1 kj4 l1)) = some r := H
     have A15 := Aside0.mk A150
     clear A150
     have HC16 := Aside0.mk H
     clear H
     obtain ⟨hcz17_0, hcz17_1, hcz17_2, hcz17_3, hcz17_4, hcz17_5, hfz17_0, hfz17_1, hfz17_2, hfz17_3, hfz17_4, hfz17_5⟩ := c6_ BK405
     go_upto_if 29 with (first | ((with_reducible refine gate_callee (f := 12) rfl ?_); refine goesL_ (some 25) rfl rfl Try.func12 (by kernel_rfl) rfl #[.agg #[.int .i64 a0_0, .int .i64 a0_1, .int .i64 a0_2, .bool a0_3, .slice A0_4 l0_4.length c0_4, .slice A0_5 l0_5.length c0_5]] rfl (by (try simp only [List.map_toArray, List.map_cons, List.map_nil]); first | done | rfl | (simp only [List.length_drop, List.length_take]; rfl)) ?_; (with_reducible refine (lsa_Encode.calls kj4 a0_0 a0_1 a0_2 a0_3 _ _ l0_4 _ _ l0_5 t408 t411 _ ?side1 ?side2 ?side3 ?side4 A15.out).mono ?_); (case side1 => exact cs_ HR0_4 HB); (case side2 => exact HC0_4.out); (case side3 => exact cs_ HR0_5 HB); (case side4 => exact HC0_5.out); rintro e w18 ⟨v409, rfl, ho0, hb⟩; refine ⟨_, rfl, ?_⟩; have HO410 := Aside0.mk (Kd.R_lower ho0 (below_size (by repeat (first | (with_reducible first | exact HB.out | apply bA | apply bN | apply bD | apply bS GE405.out) | exact HB.out)))); replace BK405 := bb_ BK405 hb; replace HB := Aside0.mk (below_step (by repeat (first | (with_reducible first | exact HB.out | apply bA | apply bN | apply bD | apply bS GE405.out) | exact HB.out)) hb); (try clear hb); (try clear hb2); (try clear hk); (try clear hi); (try clear ho0)))
     (try simp only [Act.put, List.setIfInBounds_toArray, List.set_cons_zero, List.set_cons_succ])
     go_cut [] (fun wc => ∃ (kq : Nat), Aside0 (waypointlaw32_LsaRoundTrip.j1 kq l1 = some r) ∧ Aside0 (kq ≤ kj4) ∧ Aside0 (wc.heap[gb405]? = some (.cells #[.int .i64 a0_0, .int .i64 a0_1, .int .i64 a0_2, .bool a0_3, (.slice A0_4 l0_4.length c0_4), (.slice A0_5 l0_5.length c0_5)] 25 (0, 0))) ∧ Aside0 (Below w.heap.size w wc))
     case first =>
      have H := HC16.out
      clear HC16
      by_cases c19 : t411 = 0
      ·rw [if_pos c19] at H
       have c19b0 : (t411 == 0) = true := beq_iff_eq.mpr c19
       have c19b1 : (t411 != 0) = false := bne_eq_false_iff_eq.mpr c19
       clear c19
       (first | rw [c19b0] | (simp only [i64_w, i32_w]; rw [c19b0]) | skip)
       replace H := Option.bind_eq_some_iff.mp H
       obtain ⟨⟨t412, t413, t414, t415, t416, t419, t422⟩, A200, H⟩ := H
       replace H : (if t422 = 0 then ((waypointref32_Equal.f kj4 a0_0 a0_1 a0_2 a0_3 l0_4 l0_5 t412 t413 t414 t415 t416 t419).bind fun t424 => (if t424 = true then (waypointlaw32_LsaRoundTrip.j1 kj4 l1) else (none))) else (none)) = some r := H
       have A20 := Aside0.mk A200
       clear A200
       by_cases c21 : t422 = 0
       ·rw [if_pos c21] at H
        have c21b0 : (t422 == 0) = true := beq_iff_eq.mpr c21
        have c21b1 : (t422 != 0) = false := bne_eq_false_iff_eq.mpr c21
        clear c21
        replace H := Option.bind_eq_some_iff.mp H
        obtain ⟨t424, A220, H⟩ := H
        replace H : (if t424 = true then (waypointlaw32_LsaRoundTrip.j1 kj4 l1) else (none)) = some r := H
        have A22 := Aside0.mk A220
        clear A220
        by_cases c23 : t424 = true
        ·subst c23
         have H1 : (waypointlaw32_LsaRoundTrip.j1 kj4 l1) = some r := by rw [if_pos rfl] at H; exact H
         clear H
         have H := H1
         clear H1
         have H' := Aside0.mk H
         clear H
         obtain ⟨Ao24, co24, eo24⟩ := Kd.R_slice HO410.out
         subst eo24
         go_wp2_with (first | ((with_reducible refine gate_callee (f := 19) rfl ?_); refine goesL_ (some 32) rfl rfl Try.func19 (by kernel_rfl) rfl #[.slice Ao24 t408.length co24] rfl (by (try simp only [List.map_toArray, List.map_cons, List.map_nil]); first | done | rfl | (simp only [List.length_drop, List.length_take]; rfl)) ?_; (with_reducible refine (lsa_Decode.calls kj4 _ _ t408 t412 t413 t414 t415 t416 t419 t422 _ ?side1 ?side2 A20.out).mono ?_); (case side1 => repeat (first | exact (Kd.R_reads' HO410.out).2.2 | (with_reducible refine Kd.C_alloc ?_ _) | (with_reducible refine Kd.C_drewN ?_ _) | (with_reducible refine Kd.C_drew ?_))); (case side2 => exact (Kd.R_reads' HO410.out).2.1); rintro e w25 ⟨v417, v420, rfl, ho0, ho1, hb⟩; refine ⟨_, rfl, ?_⟩; have HO418 := Aside0.mk (Kd.R_lower ho0 (below_size (by repeat (first | (with_reducible first | exact HB.out | apply bA | apply bN | apply bD | apply bS GE405.out) | exact HB.out)))); have HO421 := Aside0.mk (Kd.R_lower ho1 (below_size (by repeat (first | (with_reducible first | exact HB.out | apply bA | apply bN | apply bD | apply bS GE405.out) | exact HB.out)))); replace HO410 := Aside0.mk (Kd.R_below (by (with_reducible repeat (first | apply Kd.R_alloc | apply Kd.R_drewN | apply Kd.R_drew)); exact HO410.out) hb); replace BK405 := bb_ BK405 hb; replace HB := Aside0.mk (below_step (by repeat (first | (with_reducible first | exact HB.out | apply bA | apply bN | apply bD | apply bS GE405.out) | exact HB.out)) hb); (try clear hb); (try clear hb2); (try clear hk); (try clear hi); (try clear ho0); (try clear ho1)) | ((with_reducible refine gate_dst (N := 7) rfl ?_); (try (refine gate_guard (by rfl) ?_; dsimp only)); refine box_event ?hg (N := 7) ?hd (cs := #[.int .i64 0, .int .i64 0, .int .i64 0, .bool false, .slice none 0 0, .slice none 0 0]) (t := 25) ?hr ?_; (case hd => rfl); (case hg => rfl); (case hr => first | (go_simp; done) | (go_simp; rfl)); intro gb423 hg w26 hbox hb; have BK423 := Aside0.mk (hbox); have GW423 := Aside0.mk ((by rw [hg]; exact (below_size (by repeat (first | (with_reducible first | exact HB.out | apply bA | apply bN | apply bD | apply bS GE405.out) | exact HB.out))) : w.heap.size ≤ gb423)); have GE423 := Aside0.mk ((by rw [hg]; exact (below_size (by repeat (first | (with_reducible first | exact HB.out | apply bA | apply bN | apply bD | apply bS GE405.out) | exact HB.out))) : w.heap.size ≤ gb423)); have NB405_423 := nl_ BK405 hg; have NB423_405 := ng_ BK405 hg; replace HO410 := Aside0.mk (Kd.R_below (by (with_reducible repeat (first | apply Kd.R_alloc | apply Kd.R_drewN | apply Kd.R_drew)); exact HO410.out) hb); replace HO418 := Aside0.mk (Kd.R_below (by (with_reducible repeat (first | apply Kd.R_alloc | apply Kd.R_drewN | apply Kd.R_drew)); exact HO418.out) hb); replace HO421 := Aside0.mk (Kd.R_below (by (with_reducible repeat (first | apply Kd.R_alloc | apply Kd.R_drewN | apply Kd.R_drew)); exact HO421.out) hb); replace BK405 := bb_ BK405 hb; replace HB := Aside0.mk (below_step (by repeat (first | (with_reducible first | exact HB.out | apply bA | apply bN | apply bD | apply bS GE405.out) | exact HB.out)) hb); clear hb hbox hg; have hnb27 := NB423_405.out; have hnc27 := NB405_423.out; obtain ⟨hcz28_0, hcz28_1, hcz28_2, hcz28_3, hcz28_4, hcz28_5, hfz28_0, hfz28_1, hfz28_2, hfz28_3, hfz28_4, hfz28_5⟩ := c6_ BK423; obtain ⟨Ao29, co29, eo29⟩ := Kd.R_slice HO418.out; subst eo29; obtain ⟨Ao30, co30, eo30⟩ := Kd.R_slice HO421.out; subst eo30; obtain ⟨hcz31_0, hcz31_1, hcz31_2, hcz31_3, hcz31_4, hcz31_5, hfz31_0, hfz31_1, hfz31_2, hfz31_3, hfz31_4, hfz31_5⟩ := c6_ BK405) | (go_at_call 16; (with_reducible refine (waypointref32_Equal.calls kj4 a0_0 a0_1 a0_2 a0_3 _ _ l0_4 _ _ l0_5 t412 t413 t414 t415 _ _ t416 _ _ t419 true _ ?side1 ?side2 ?side3 ?side4 ?side5 ?side6 ?side7 ?side8 A22.out).mono ?_); (case side1 => exact Kd.C_below HR0_4.out (by repeat (first | (with_reducible first | exact HB.out | apply bA | apply bN | apply bD | apply bS GE405.out | apply bS GE423.out) | exact HB.out))); (case side2 => exact HC0_4.out); (case side3 => exact Kd.C_below HR0_5.out (by repeat (first | (with_reducible first | exact HB.out | apply bA | apply bN | apply bD | apply bS GE405.out | apply bS GE423.out) | exact HB.out))); (case side4 => exact HC0_5.out); (case side5 => refine (Kd.R_reads' (e := 43) (base := w.heap.size) (ok := fun k_ => True) (n := t416.length) (c := co29) ?_).2.2; exact (by (with_reducible repeat (first | apply Kd.R_alloc | apply Kd.R_drewN | apply Kd.R_drew)); exact (Kd.R_mono (Kd.R_far (p := ⟨gb423, 5, none⟩) (Kd.R_far (p := ⟨gb423, 4, none⟩) (Kd.R_far (p := ⟨gb423, 3, none⟩) (Kd.R_far (p := ⟨gb423, 2, none⟩) (Kd.R_far (p := ⟨gb423, 1, none⟩) (Kd.R_far (p := ⟨gb423, 0, none⟩) (Kd.R_types HO418.out BK423.out (by decide)) (fun _ hk => hk.2) (.int .i64 t412)) (fun _ hk => hk.2) (.int .i64 t413)) (fun _ hk => hk.2) (.int .i64 t414)) (fun _ hk => hk.2) (.bool t415)) (fun _ hk => hk.2) (.slice Ao29 t416.length co29)) (fun _ hk => hk.2) (.slice Ao30 t419.length co30)) (fun _ h_ => h_.1)))); (case side6 => exact (Kd.R_reads' HO418.out).2.1); (case side7 => refine (Kd.R_reads' (e := 56) (base := w.heap.size) (ok := fun k_ => True) (n := t419.length) (c := co30) ?_).2.2; exact (by (with_reducible repeat (first | apply Kd.R_alloc | apply Kd.R_drewN | apply Kd.R_drew)); exact (Kd.R_mono (Kd.R_far (p := ⟨gb423, 5, none⟩) (Kd.R_far (p := ⟨gb423, 4, none⟩) (Kd.R_far (p := ⟨gb423, 3, none⟩) (Kd.R_far (p := ⟨gb423, 2, none⟩) (Kd.R_far (p := ⟨gb423, 1, none⟩) (Kd.R_far (p := ⟨gb423, 0, none⟩) (Kd.R_types HO421.out BK423.out (by decide)) (fun _ hk => hk.2) (.int .i64 t412)) (fun _ hk => hk.2) (.int .i64 t413)) (fun _ hk => hk.2) (.int .i64 t414)) (fun _ hk => hk.2) (.bool t415)) (fun _ hk => hk.2) (.slice Ao29 t416.length co29)) (fun _ hk => hk.2) (.slice Ao30 t419.length co30)) (fun _ h_ => h_.1)))); (case side8 => exact (Kd.R_reads' HO421.out).2.1); rintro e w32 ⟨rfl, hb⟩; replace HO410 := Aside0.mk (Kd.R_below (by (with_reducible repeat (first | apply Kd.R_alloc | apply Kd.R_drewN | apply Kd.R_drew)); exact (Kd.R_mono (Kd.R_far (p := ⟨gb423, 5, none⟩) (Kd.R_far (p := ⟨gb423, 4, none⟩) (Kd.R_far (p := ⟨gb423, 3, none⟩) (Kd.R_far (p := ⟨gb423, 2, none⟩) (Kd.R_far (p := ⟨gb423, 1, none⟩) (Kd.R_far (p := ⟨gb423, 0, none⟩) (Kd.R_types HO410.out BK423.out (by decide)) (fun _ hk => hk.2) (.int .i64 t412)) (fun _ hk => hk.2) (.int .i64 t413)) (fun _ hk => hk.2) (.int .i64 t414)) (fun _ hk => hk.2) (.bool t415)) (fun _ hk => hk.2) (.slice Ao29 t416.length co29)) (fun _ hk => hk.2) (.slice Ao30 t419.length co30)) (fun _ h_ => h_.1))) hb); replace HO418 := Aside0.mk (Kd.R_below (by (with_reducible repeat (first | apply Kd.R_alloc | apply Kd.R_drewN | apply Kd.R_drew)); exact (Kd.R_mono (Kd.R_far (p := ⟨gb423, 5, none⟩) (Kd.R_far (p := ⟨gb423, 4, none⟩) (Kd.R_far (p := ⟨gb423, 3, none⟩) (Kd.R_far (p := ⟨gb423, 2, none⟩) (Kd.R_far (p := ⟨gb423, 1, none⟩) (Kd.R_far (p := ⟨gb423, 0, none⟩) (Kd.R_types HO418.out BK423.out (by decide)) (fun _ hk => hk.2) (.int .i64 t412)) (fun _ hk => hk.2) (.int .i64 t413)) (fun _ hk => hk.2) (.int .i64 t414)) (fun _ hk => hk.2) (.bool t415)) (fun _ hk => hk.2) (.slice Ao29 t416.length co29)) (fun _ hk => hk.2) (.slice Ao30 t419.length co30)) (fun _ h_ => h_.1))) hb); replace HO421 := Aside0.mk (Kd.R_below (by (with_reducible repeat (first | apply Kd.R_alloc | apply Kd.R_drewN | apply Kd.R_drew)); exact (Kd.R_mono (Kd.R_far (p := ⟨gb423, 5, none⟩) (Kd.R_far (p := ⟨gb423, 4, none⟩) (Kd.R_far (p := ⟨gb423, 3, none⟩) (Kd.R_far (p := ⟨gb423, 2, none⟩) (Kd.R_far (p := ⟨gb423, 1, none⟩) (Kd.R_far (p := ⟨gb423, 0, none⟩) (Kd.R_types HO421.out BK423.out (by decide)) (fun _ hk => hk.2) (.int .i64 t412)) (fun _ hk => hk.2) (.int .i64 t413)) (fun _ hk => hk.2) (.int .i64 t414)) (fun _ hk => hk.2) (.bool t415)) (fun _ hk => hk.2) (.slice Ao29 t416.length co29)) (fun _ hk => hk.2) (.slice Ao30 t419.length co30)) (fun _ h_ => h_.1))) hb); replace BK405 := Aside0.mk (blk_below (g := gb405) (o := .cells #[.int .i64 a0_0, .int .i64 a0_1, .int .i64 a0_2, .bool a0_3, .slice A0_4 l0_4.length c0_4, .slice A0_5 l0_5.length c0_5] 25 (0, 0)) (by (with_reducible repeat (first | refine blk_drewN ?_ _ | refine blk_drew ?_ | refine blk_alloc ?_ _)); refine blk_far ?_ NB405_423.out _; (with_reducible repeat (first | refine blk_drewN ?_ _ | refine blk_drew ?_ | refine blk_alloc ?_ _)); refine blk_far ?_ NB405_423.out _; (with_reducible repeat (first | refine blk_drewN ?_ _ | refine blk_drew ?_ | refine blk_alloc ?_ _)); refine blk_far ?_ NB405_423.out _; (with_reducible repeat (first | refine blk_drewN ?_ _ | refine blk_drew ?_ | refine blk_alloc ?_ _)); refine blk_far ?_ NB405_423.out _; (with_reducible repeat (first | refine blk_drewN ?_ _ | refine blk_drew ?_ | refine blk_alloc ?_ _)); refine blk_far ?_ NB405_423.out _; (with_reducible repeat (first | refine blk_drewN ?_ _ | refine blk_drew ?_ | refine blk_alloc ?_ _)); refine blk_far ?_ NB405_423.out _; (with_reducible repeat (first | refine blk_drewN ?_ _ | refine blk_drew ?_ | refine blk_alloc ?_ _)); exact BK405.out) hb); replace BK423 := Aside0.mk (blk_below (g := gb423) (o := .cells #[.int .i64 t412, .int .i64 t413, .int .i64 t414, .bool t415, .slice Ao29 t416.length co29, .slice Ao30 t419.length co30] 25 (0, 0)) (by (with_reducible repeat (first | refine blk_drewN ?_ _ | refine blk_drew ?_ | refine blk_alloc ?_ _)); refine blk_put (cs := #[.int .i64 t412, .int .i64 t413, .int .i64 t414, .bool t415, .slice Ao29 t416.length co29, .slice none 0 0]) ?_ 5 _ rfl; (with_reducible repeat (first | refine blk_drewN ?_ _ | refine blk_drew ?_ | refine blk_alloc ?_ _)); refine blk_put (cs := #[.int .i64 t412, .int .i64 t413, .int .i64 t414, .bool t415, .slice none 0 0, .slice none 0 0]) ?_ 4 _ rfl; (with_reducible repeat (first | refine blk_drewN ?_ _ | refine blk_drew ?_ | refine blk_alloc ?_ _)); refine blk_put (cs := #[.int .i64 t412, .int .i64 t413, .int .i64 t414, .bool false, .slice none 0 0, .slice none 0 0]) ?_ 3 _ rfl; (with_reducible repeat (first | refine blk_drewN ?_ _ | refine blk_drew ?_ | refine blk_alloc ?_ _)); refine blk_put (cs := #[.int .i64 t412, .int .i64 t413, .int .i64 0, .bool false, .slice none 0 0, .slice none 0 0]) ?_ 2 _ rfl; (with_reducible repeat (first | refine blk_drewN ?_ _ | refine blk_drew ?_ | refine blk_alloc ?_ _)); refine blk_put (cs := #[.int .i64 t412, .int .i64 0, .int .i64 0, .bool false, .slice none 0 0, .slice none 0 0]) ?_ 1 _ rfl; (with_reducible repeat (first | refine blk_drewN ?_ _ | refine blk_drew ?_ | refine blk_alloc ?_ _)); refine blk_put (cs := #[.int .i64 0, .int .i64 0, .int .i64 0, .bool false, .slice none 0 0, .slice none 0 0]) ?_ 0 _ rfl; (with_reducible repeat (first | refine blk_drewN ?_ _ | refine blk_drew ?_ | refine blk_alloc ?_ _)); exact BK423.out) hb); replace HB := Aside0.mk (below_step (by repeat (first | (with_reducible first | exact HB.out | apply bA | apply bN | apply bD | apply bS GE405.out | apply bS GE423.out) | exact HB.out)) hb); (try clear hb); (try clear hb2); (try clear hk); (try clear hi)))
         go_meet
         case rel => exact ⟨_, H', ⟨by have := HJ4.out; first | omega | exact Nat.le_refl _⟩, ⟨kb_ BK405⟩, ⟨by repeat (first | (with_reducible first | exact HB.out | apply bA | apply bN | apply bD | apply bS GE405.out | apply bS GE423.out) | exact HB.out)⟩⟩
        ·replace c23 := Bool.eq_false_iff.mpr c23
         subst c23
         have H1 : (none) = some r := by rw [if_neg (show ¬ (false = true) by decide)] at H; exact H
         clear H
         have H := H1
         clear H1
         exact absurd H (by simp)
       ·rw [if_neg c21] at H
        exact absurd H (by simp)
      ·rw [if_neg c19] at H
       have c19b0 : (t411 == 0) = false := beq_eq_false_iff_ne.mpr c19
       have c19b1 : (t411 != 0) = true := bne_iff_ne.mpr c19
       (first | rw [c19b0] | (simp only [i64_w, i32_w]; rw [c19b0]) | skip)
       have H' := Aside0.mk H
       clear H
       go_wp2
       go_meet
       case rel => exact ⟨_, H', ⟨by have := HJ4.out; first | omega | exact Nat.le_refl _⟩, ⟨kb_ BK405⟩, ⟨by repeat (first | (with_reducible first | exact HB.out | apply bA | apply bN | apply bD | apply bS GE405.out) | exact HB.out)⟩⟩
     case rest =>
      clear HC16
      (try clear c1); (try clear c4); (try clear c14); (try clear hcz17_0); (try clear hcz17_1); (try clear hcz17_2); (try clear hcz17_3); (try clear hcz17_4); (try clear hcz17_5); (try clear hfz17_0); (try clear hfz17_1); (try clear hfz17_2); (try clear hfz17_3); (try clear hfz17_4); (try clear hfz17_5)
      obtain ⟨kq, HA, HJ15, BK405, HB⟩ := hcut
      cases kq with
      | zero => exact absurd HA.out (by simp [waypointlaw32_LsaRoundTrip.j1])
      | succ kj15 =>
       have H := HA.out
       clear HA
       simp only [waypointlaw32_LsaRoundTrip.j1] at H
       replace H := Option.bind_eq_some_iff.mp H
       obtain ⟨⟨t425, t426, t427, t428, t429, t432, t435⟩, A330, H⟩ := H
       replace H : (if t435 = 0 then ((lsa_Encode.f kj15 t425 t426 t427 t428 t429 t432).bind fun bt438 => (if bt438.2 = 0 then (if (strOfNums bt438.1).toList = (strOfNums l1).toList then ((lsa_Valid.f kj15 t425 t426 t427 t428 t429 t432).bind fun t442 => (some t442)) else (none)) else (none))) else ((waypointref32_Equal.f kj15 t425 t426 t427 t428 t429 t432 0 0 0 false ([] : List (S43)) ([] : List (S56))).bind fun t437 => (some t437))) = some r := H
       have A33 := Aside0.mk A330
       clear A330
       by_cases c34 : t435 = 0
       ·rw [if_pos c34] at H
        have c34b0 : (t435 == 0) = true := beq_iff_eq.mpr c34
        have c34b1 : (t435 != 0) = false := bne_eq_false_iff_eq.mpr c34
        clear c34
        replace H := Option.bind_eq_some_iff.mp H
        obtain ⟨⟨t438, t441⟩, A350, H⟩ := H
        replace H : (if t441 = 0 then (if (strOfNums t438).toList = (strOfNums l1).toList then ((lsa_Valid.f kj15 t425 t426 t427 t428 t429 t432).bind fun t442 => (some t442)) else (none)) else (none)) = some r := H
        have A35 := Aside0.mk A350
        clear A350
        by_cases c36 : t441 = 0
        ·rw [if_pos c36] at H
         have c36b0 : (t441 == 0) = true := beq_iff_eq.mpr c36
         have c36b1 : (t441 != 0) = false := bne_eq_false_iff_eq.mpr c36
         clear c36
         by_cases c37 : (strOfNums t438).toList = (strOfNums l1).toList
         ·rw [if_pos c37] at H
          have c37b0 : ((strOfNums t438).toList == (strOfNums l1).toList) = true := beq_iff_eq.mpr c37
          have c37b1 : ((strOfNums t438).toList != (strOfNums l1).toList) = false := bne_eq_false_iff_eq.mpr c37
          clear c37
          replace H := Option.bind_eq_some_iff.mp H
          obtain ⟨t442, A380, H⟩ := H
          replace H : (some t442) = some r := H
          have A38 := Aside0.mk A380
          clear A380
          obtain rfl := Option.some.inj H
          go_wp2_with (first | ((with_reducible refine gate_callee (f := 19) rfl ?_); refine goesL_ (some 45) rfl rfl Try.func19 (by kernel_rfl) rfl #[.slice A1 l1.length c1] rfl (by (try simp only [List.map_toArray, List.map_cons, List.map_nil]); first | done | rfl | (simp only [List.length_drop, List.length_take]; rfl)) ?_; (with_reducible refine (lsa_Decode.calls kj15 _ _ l1 t425 t426 t427 t428 t429 t432 t435 _ ?side1 ?side2 A33.out).mono ?_); (case side1 => exact cs_ HR1 HB); (case side2 => exact HC1.out); rintro e w39 ⟨v430, v433, rfl, ho0, ho1, hb⟩; refine ⟨_, rfl, ?_⟩; have HO431 := Aside0.mk (Kd.R_lower ho0 (below_size (by repeat (first | (with_reducible first | exact HB.out | apply bA | apply bN | apply bD | apply bS GE405.out) | exact HB.out)))); have HO434 := Aside0.mk (Kd.R_lower ho1 (below_size (by repeat (first | (with_reducible first | exact HB.out | apply bA | apply bN | apply bD | apply bS GE405.out) | exact HB.out)))); replace BK405 := bb_ BK405 hb; replace HB := Aside0.mk (below_step (by repeat (first | (with_reducible first | exact HB.out | apply bA | apply bN | apply bD | apply bS GE405.out) | exact HB.out)) hb); (try clear hb); (try clear hb2); (try clear hk); (try clear hi); (try clear ho0); (try clear ho1)) | ((with_reducible refine gate_dst (N := 9) rfl ?_); (try (refine gate_guard (by rfl) ?_; dsimp only)); refine box_event ?hg (N := 9) ?hd (cs := #[.int .i64 0, .int .i64 0, .int .i64 0, .bool false, .slice none 0 0, .slice none 0 0]) (t := 25) ?hr ?_; (case hd => rfl); (case hg => rfl); (case hr => first | (go_simp; done) | (go_simp; rfl)); intro gb436 hg w40 hbox hb; have BK436 := Aside0.mk (hbox); have GW436 := Aside0.mk ((by rw [hg]; exact (below_size (by repeat (first | (with_reducible first | exact HB.out | apply bA | apply bN | apply bD | apply bS GE405.out) | exact HB.out))) : w.heap.size ≤ gb436)); have GE436 := Aside0.mk ((by rw [hg]; exact (below_size (by repeat (first | (with_reducible first | exact HB.out | apply bA | apply bN | apply bD | apply bS GE405.out) | exact HB.out))) : w.heap.size ≤ gb436)); have NB405_436 := nl_ BK405 hg; have NB436_405 := ng_ BK405 hg; replace HO431 := Aside0.mk (Kd.R_below (by (with_reducible repeat (first | apply Kd.R_alloc | apply Kd.R_drewN | apply Kd.R_drew)); exact HO431.out) hb); replace HO434 := Aside0.mk (Kd.R_below (by (with_reducible repeat (first | apply Kd.R_alloc | apply Kd.R_drewN | apply Kd.R_drew)); exact HO434.out) hb); replace BK405 := bb_ BK405 hb; replace HB := Aside0.mk (below_step (by repeat (first | (with_reducible first | exact HB.out | apply bA | apply bN | apply bD | apply bS GE405.out) | exact HB.out)) hb); clear hb hbox hg; have hnb41 := NB436_405.out; have hnc41 := NB405_436.out; obtain ⟨hcz42_0, hcz42_1, hcz42_2, hcz42_3, hcz42_4, hcz42_5, hfz42_0, hfz42_1, hfz42_2, hfz42_3, hfz42_4, hfz42_5⟩ := c6_ BK436; obtain ⟨Ao43, co43, eo43⟩ := Kd.R_slice HO431.out; subst eo43; obtain ⟨Ao44, co44, eo44⟩ := Kd.R_slice HO434.out; subst eo44) | ((with_reducible refine gate_callee (f := 12) rfl ?_); refine goesL_ (some 55) rfl rfl Try.func12 (by kernel_rfl) rfl #[.agg #[.int .i64 t425, .int .i64 t426, .int .i64 t427, .bool t428, .slice Ao43 t429.length co43, .slice Ao44 t432.length co44]] rfl (by (try simp only [List.map_toArray, List.map_cons, List.map_nil]); first | done | rfl | (simp only [List.length_drop, List.length_take]; rfl)) ?_; (with_reducible refine (lsa_Encode.calls kj15 t425 t426 t427 t428 _ _ t429 _ _ t432 t438 t441 _ ?side1 ?side2 ?side3 ?side4 A35.out).mono ?_); (case side1 => refine (Kd.R_reads' (e := 43) (base := w.heap.size) (ok := fun k_ => True) (n := t429.length) (c := co43) ?_).2.2; exact (by (with_reducible repeat (first | apply Kd.R_alloc | apply Kd.R_drewN | apply Kd.R_drew)); exact (Kd.R_mono (Kd.R_far (p := ⟨gb436, 5, none⟩) (Kd.R_far (p := ⟨gb436, 4, none⟩) (Kd.R_far (p := ⟨gb436, 3, none⟩) (Kd.R_far (p := ⟨gb436, 2, none⟩) (Kd.R_far (p := ⟨gb436, 1, none⟩) (Kd.R_far (p := ⟨gb436, 0, none⟩) (Kd.R_types HO431.out BK436.out (by decide)) (fun _ hk => hk.2) (.int .i64 t425)) (fun _ hk => hk.2) (.int .i64 t426)) (fun _ hk => hk.2) (.int .i64 t427)) (fun _ hk => hk.2) (.bool t428)) (fun _ hk => hk.2) (.slice Ao43 t429.length co43)) (fun _ hk => hk.2) (.slice Ao44 t432.length co44)) (fun _ h_ => h_.1)))); (case side2 => exact (Kd.R_reads' HO431.out).2.1); (case side3 => refine (Kd.R_reads' (e := 56) (base := w.heap.size) (ok := fun k_ => True) (n := t432.length) (c := co44) ?_).2.2; exact (by (with_reducible repeat (first | apply Kd.R_alloc | apply Kd.R_drewN | apply Kd.R_drew)); exact (Kd.R_mono (Kd.R_far (p := ⟨gb436, 5, none⟩) (Kd.R_far (p := ⟨gb436, 4, none⟩) (Kd.R_far (p := ⟨gb436, 3, none⟩) (Kd.R_far (p := ⟨gb436, 2, none⟩) (Kd.R_far (p := ⟨gb436, 1, none⟩) (Kd.R_far (p := ⟨gb436, 0, none⟩) (Kd.R_types HO434.out BK436.out (by decide)) (fun _ hk => hk.2) (.int .i64 t425)) (fun _ hk => hk.2) (.int .i64 t426)) (fun _ hk => hk.2) (.int .i64 t427)) (fun _ hk => hk.2) (.bool t428)) (fun _ hk => hk.2) (.slice Ao43 t429.length co43)) (fun _ hk => hk.2) (.slice Ao44 t432.length co44)) (fun _ h_ => h_.1)))); (case side4 => exact (Kd.R_reads' HO434.out).2.1); rintro e w45 ⟨v439, rfl, ho0, hb⟩; refine ⟨_, rfl, ?_⟩; have HO440 := Aside0.mk (Kd.R_lower ho0 (below_size (by repeat (first | (with_reducible first | exact HB.out | apply bA | apply bN | apply bD | apply bS GE405.out | apply bS GE436.out) | exact HB.out)))); replace HO431 := Aside0.mk (Kd.R_below (by (with_reducible repeat (first | apply Kd.R_alloc | apply Kd.R_drewN | apply Kd.R_drew)); exact (Kd.R_mono (Kd.R_far (p := ⟨gb436, 5, none⟩) (Kd.R_far (p := ⟨gb436, 4, none⟩) (Kd.R_far (p := ⟨gb436, 3, none⟩) (Kd.R_far (p := ⟨gb436, 2, none⟩) (Kd.R_far (p := ⟨gb436, 1, none⟩) (Kd.R_far (p := ⟨gb436, 0, none⟩) (Kd.R_types HO431.out BK436.out (by decide)) (fun _ hk => hk.2) (.int .i64 t425)) (fun _ hk => hk.2) (.int .i64 t426)) (fun _ hk => hk.2) (.int .i64 t427)) (fun _ hk => hk.2) (.bool t428)) (fun _ hk => hk.2) (.slice Ao43 t429.length co43)) (fun _ hk => hk.2) (.slice Ao44 t432.length co44)) (fun _ h_ => h_.1))) hb); replace HO434 := Aside0.mk (Kd.R_below (by (with_reducible repeat (first | apply Kd.R_alloc | apply Kd.R_drewN | apply Kd.R_drew)); exact (Kd.R_mono (Kd.R_far (p := ⟨gb436, 5, none⟩) (Kd.R_far (p := ⟨gb436, 4, none⟩) (Kd.R_far (p := ⟨gb436, 3, none⟩) (Kd.R_far (p := ⟨gb436, 2, none⟩) (Kd.R_far (p := ⟨gb436, 1, none⟩) (Kd.R_far (p := ⟨gb436, 0, none⟩) (Kd.R_types HO434.out BK436.out (by decide)) (fun _ hk => hk.2) (.int .i64 t425)) (fun _ hk => hk.2) (.int .i64 t426)) (fun _ hk => hk.2) (.int .i64 t427)) (fun _ hk => hk.2) (.bool t428)) (fun _ hk => hk.2) (.slice Ao43 t429.length co43)) (fun _ hk => hk.2) (.slice Ao44 t432.length co44)) (fun _ h_ => h_.1))) hb); replace BK405 := Aside0.mk (blk_below (g := gb405) (o := .cells #[.int .i64 a0_0, .int .i64 a0_1, .int .i64 a0_2, .bool a0_3, .slice A0_4 l0_4.length c0_4, .slice A0_5 l0_5.length c0_5] 25 (0, 0)) (by (with_reducible repeat (first | refine blk_drewN ?_ _ | refine blk_drew ?_ | refine blk_alloc ?_ _)); refine blk_far ?_ NB405_436.out _; (with_reducible repeat (first | refine blk_drewN ?_ _ | refine blk_drew ?_ | refine blk_alloc ?_ _)); refine blk_far ?_ NB405_436.out _; (with_reducible repeat (first | refine blk_drewN ?_ _ | refine blk_drew ?_ | refine blk_alloc ?_ _)); refine blk_far ?_ NB405_436.out _; (with_reducible repeat (first | refine blk_drewN ?_ _ | refine blk_drew ?_ | refine blk_alloc ?_ _)); refine blk_far ?_ NB405_436.out _; (with_reducible repeat (first | refine blk_drewN ?_ _ | refine blk_drew ?_ | refine blk_alloc ?_ _)); refine blk_far ?_ NB405_436.out _; (with_reducible repeat (first | refine blk_drewN ?_ _ | refine blk_drew ?_ | refine blk_alloc ?_ _)); refine blk_far ?_ NB405_436.out _; (with_reducible repeat (first | refine blk_drewN ?_ _ | refine blk_drew ?_ | refine blk_alloc ?_ _)); exact BK405.out) hb); replace BK436 := Aside0.mk (blk_below (g := gb436) (o := .cells #[.int .i64 t425, .int .i64 t426, .int .i64 t427, .bool t428, .slice Ao43 t429.length co43, .slice Ao44 t432.length co44] 25 (0, 0)) (by (with_reducible repeat (first | refine blk_drewN ?_ _ | refine blk_drew ?_ | refine blk_alloc ?_ _)); refine blk_put (cs := #[.int .i64 t425, .int .i64 t426, .int .i64 t427, .bool t428, .slice Ao43 t429.length co43, .slice none 0 0]) ?_ 5 _ rfl; (with_reducible repeat (first | refine blk_drewN ?_ _ | refine blk_drew ?_ | refine blk_alloc ?_ _)); refine blk_put (cs := #[.int .i64 t425, .int .i64 t426, .int .i64 t427, .bool t428, .slice none 0 0, .slice none 0 0]) ?_ 4 _ rfl; (with_reducible repeat (first | refine blk_drewN ?_ _ | refine blk_drew ?_ | refine blk_alloc ?_ _)); refine blk_put (cs := #[.int .i64 t425, .int .i64 t426, .int .i64 t427, .bool false, .slice none 0 0, .slice none 0 0]) ?_ 3 _ rfl; (with_reducible repeat (first | refine blk_drewN ?_ _ | refine blk_drew ?_ | refine blk_alloc ?_ _)); refine blk_put (cs := #[.int .i64 t425, .int .i64 t426, .int .i64 0, .bool false, .slice none 0 0, .slice none 0 0]) ?_ 2 _ rfl; (with_reducible repeat (first | refine blk_drewN ?_ _ | refine blk_drew ?_ | refine blk_alloc ?_ _)); refine blk_put (cs := #[.int .i64 t425, .int .i64 0, .int .i64 0, .bool false, .slice none 0 0, .slice none 0 0]) ?_ 1 _ rfl; (with_reducible repeat (first | refine blk_drewN ?_ _ | refine blk_drew ?_ | refine blk_alloc ?_ _)); refine blk_put (cs := #[.int .i64 0, .int .i64 0, .int .i64 0, .bool false, .slice none 0 0, .slice none 0 0]) ?_ 0 _ rfl; (with_reducible repeat (first | refine blk_drewN ?_ _ | refine blk_drew ?_ | refine blk_alloc ?_ _)); exact BK436.out) hb); replace HB := Aside0.mk (below_step (by repeat (first | (with_reducible first | exact HB.out | apply bA | apply bN | apply bD | apply bS GE405.out | apply bS GE436.out) | exact HB.out)) hb); (try clear hb); (try clear hb2); (try clear hk); (try clear hi); (try clear ho0); have hcv46 := own_string (P := Try.prog) Try.underlying28 Try.underlying5 Try.underlying9 (Kd.own_of_R HO440.out); have hcv47 := Kd.C_string (P := Try.prog) (A := A1) (c := c1) Try.underlying28 Try.underlying5 Try.underlying9 (Kd.C_below HR1.out HB.out); obtain ⟨hcz48_0, hcz48_1, hcz48_2, hcz48_3, hcz48_4, hcz48_5, hfz48_0, hfz48_1, hfz48_2, hfz48_3, hfz48_4, hfz48_5⟩ := c6_ BK436) | (go_at_call 14; (with_reducible refine (lsa_Valid.calls kj15 t425 t426 t427 t428 _ _ t429 _ _ t432 t442 _ ?side1 ?side2 ?side3 ?side4 A38.out).mono ?_); (case side1 => repeat (first | exact (Kd.R_reads' HO431.out).2.2 | (with_reducible refine Kd.C_alloc ?_ _) | (with_reducible refine Kd.C_drewN ?_ _) | (with_reducible refine Kd.C_drew ?_))); (case side2 => exact (Kd.R_reads' HO431.out).2.1); (case side3 => repeat (first | exact (Kd.R_reads' HO434.out).2.2 | (with_reducible refine Kd.C_alloc ?_ _) | (with_reducible refine Kd.C_drewN ?_ _) | (with_reducible refine Kd.C_drew ?_))); (case side4 => exact (Kd.R_reads' HO434.out).2.1); rintro e w49 ⟨rfl, hb⟩; replace HO431 := Aside0.mk (Kd.R_below (by (with_reducible repeat (first | apply Kd.R_alloc | apply Kd.R_drewN | apply Kd.R_drew)); exact HO431.out) hb); replace HO434 := Aside0.mk (Kd.R_below (by (with_reducible repeat (first | apply Kd.R_alloc | apply Kd.R_drewN | apply Kd.R_drew)); exact HO434.out) hb); replace HO440 := Aside0.mk (Kd.R_below (by (with_reducible repeat (first | apply Kd.R_alloc | apply Kd.R_drewN | apply Kd.R_drew)); exact HO440.out) hb); replace BK405 := bb_ BK405 hb; replace BK436 := bb_ BK436 hb; replace HB := Aside0.mk (below_step (by repeat (first | (with_reducible first | exact HB.out | apply bA | apply bN | apply bD | apply bS GE405.out | apply bS GE436.out) | exact HB.out)) hb); (try clear hb); (try clear hb2); (try clear hk); (try clear hi)))
          go_ret
          exact ⟨by first | rfl | (simp [errW_none, errW_some] <;> rfl) | (simp [*, errW_none, errW_some] <;> rfl), by repeat (first | (with_reducible first | exact HB.out | apply bA | apply bN | apply bD | apply bS GE405.out | apply bS GE436.out) | exact HB.out)⟩
         ·rw [if_neg c37] at H
          exact absurd H (by simp)
        ·rw [if_neg c36] at H
         exact absurd H (by simp)
       ·rw [if_neg c34] at H
        have c34b0 : (t435 == 0) = false := beq_eq_false_iff_ne.mpr c34
        have c34b1 : (t435 != 0) = true := bne_iff_ne.mpr c34
        replace H := Option.bind_eq_some_iff.mp H
        obtain ⟨t437, A500, H⟩ := H
        replace H : (some t437) = some r := H
        have A50 := Aside0.mk A500
        clear A500
        obtain rfl := Option.some.inj H
        go_wp2_with (first | ((with_reducible refine gate_callee (f := 19) rfl ?_); refine goesL_ (some 45) rfl rfl Try.func19 (by kernel_rfl) rfl #[.slice A1 l1.length c1] rfl (by (try simp only [List.map_toArray, List.map_cons, List.map_nil]); first | done | rfl | (simp only [List.length_drop, List.length_take]; rfl)) ?_; (with_reducible refine (lsa_Decode.calls kj15 _ _ l1 t425 t426 t427 t428 t429 t432 t435 _ ?side1 ?side2 A33.out).mono ?_); (case side1 => exact cs_ HR1 HB); (case side2 => exact HC1.out); rintro e w51 ⟨v430, v433, rfl, ho0, ho1, hb⟩; refine ⟨_, rfl, ?_⟩; have HO431 := Aside0.mk (Kd.R_lower ho0 (below_size (by repeat (first | (with_reducible first | exact HB.out | apply bA | apply bN | apply bD | apply bS GE405.out) | exact HB.out)))); have HO434 := Aside0.mk (Kd.R_lower ho1 (below_size (by repeat (first | (with_reducible first | exact HB.out | apply bA | apply bN | apply bD | apply bS GE405.out) | exact HB.out)))); replace BK405 := bb_ BK405 hb; replace HB := Aside0.mk (below_step (by repeat (first | (with_reducible first | exact HB.out | apply bA | apply bN | apply bD | apply bS GE405.out) | exact HB.out)) hb); (try clear hb); (try clear hb2); (try clear hk); (try clear hi); (try clear ho0); (try clear ho1)) | ((with_reducible refine gate_dst (N := 9) rfl ?_); (try (refine gate_guard (by rfl) ?_; dsimp only)); refine box_event ?hg (N := 9) ?hd (cs := #[.int .i64 0, .int .i64 0, .int .i64 0, .bool false, .slice none 0 0, .slice none 0 0]) (t := 25) ?hr ?_; (case hd => rfl); (case hg => rfl); (case hr => first | (go_simp; done) | (go_simp; rfl)); intro gb436 hg w52 hbox hb; have BK436 := Aside0.mk (hbox); have GW436 := Aside0.mk ((by rw [hg]; exact (below_size (by repeat (first | (with_reducible first | exact HB.out | apply bA | apply bN | apply bD | apply bS GE405.out) | exact HB.out))) : w.heap.size ≤ gb436)); have GE436 := Aside0.mk ((by rw [hg]; exact (below_size (by repeat (first | (with_reducible first | exact HB.out | apply bA | apply bN | apply bD | apply bS GE405.out) | exact HB.out))) : w.heap.size ≤ gb436)); have NB405_436 := nl_ BK405 hg; have NB436_405 := ng_ BK405 hg; replace HO431 := Aside0.mk (Kd.R_below (by (with_reducible repeat (first | apply Kd.R_alloc | apply Kd.R_drewN | apply Kd.R_drew)); exact HO431.out) hb); replace HO434 := Aside0.mk (Kd.R_below (by (with_reducible repeat (first | apply Kd.R_alloc | apply Kd.R_drewN | apply Kd.R_drew)); exact HO434.out) hb); replace BK405 := bb_ BK405 hb; replace HB := Aside0.mk (below_step (by repeat (first | (with_reducible first | exact HB.out | apply bA | apply bN | apply bD | apply bS GE405.out) | exact HB.out)) hb); clear hb hbox hg; have hnb53 := NB436_405.out; have hnc53 := NB405_436.out; obtain ⟨hcz54_0, hcz54_1, hcz54_2, hcz54_3, hcz54_4, hcz54_5, hfz54_0, hfz54_1, hfz54_2, hfz54_3, hfz54_4, hfz54_5⟩ := c6_ BK436; obtain ⟨Ao55, co55, eo55⟩ := Kd.R_slice HO431.out; subst eo55; obtain ⟨Ao56, co56, eo56⟩ := Kd.R_slice HO434.out; subst eo56) | ((with_reducible refine gate_callee (f := 16) rfl ?_); refine goesL_ (some 52) rfl rfl Try.func16 (by kernel_rfl) rfl #[.agg #[.int .i64 t425, .int .i64 t426, .int .i64 t427, .bool t428, .slice Ao55 t429.length co55, .slice Ao56 t432.length co56], .agg #[.int .i64 0, .int .i64 0, .int .i64 0, .bool false, .slice none 0 0, .slice none 0 0]] rfl (by (try simp only [List.map_toArray, List.map_cons, List.map_nil]); first | done | rfl | (simp only [List.length_drop, List.length_take]; rfl)) ?_; (refine (waypointref32_Equal.calls kj15 t425 t426 t427 t428 _ _ t429 _ _ t432 0 0 0 false _ _ ([] : List (S43)) _ _ ([] : List (S56)) t437 _ ?side1 ?side2 ?side3 ?side4 ?side5 ?side6 ?side7 ?side8 A50.out).mono ?_); (case side1 => refine (Kd.R_reads' (e := 43) (base := w.heap.size) (ok := fun k_ => True) (n := t429.length) (c := co55) ?_).2.2; exact (by (with_reducible repeat (first | apply Kd.R_alloc | apply Kd.R_drewN | apply Kd.R_drew)); exact (Kd.R_mono (Kd.R_far (p := ⟨gb436, 5, none⟩) (Kd.R_far (p := ⟨gb436, 4, none⟩) (Kd.R_far (p := ⟨gb436, 3, none⟩) (Kd.R_far (p := ⟨gb436, 2, none⟩) (Kd.R_far (p := ⟨gb436, 1, none⟩) (Kd.R_far (p := ⟨gb436, 0, none⟩) (Kd.R_types HO431.out BK436.out (by decide)) (fun _ hk => hk.2) (.int .i64 t425)) (fun _ hk => hk.2) (.int .i64 t426)) (fun _ hk => hk.2) (.int .i64 t427)) (fun _ hk => hk.2) (.bool t428)) (fun _ hk => hk.2) (.slice Ao55 t429.length co55)) (fun _ hk => hk.2) (.slice Ao56 t432.length co56)) (fun _ h_ => h_.1)))); (case side2 => exact (Kd.R_reads' HO431.out).2.1); (case side3 => refine (Kd.R_reads' (e := 56) (base := w.heap.size) (ok := fun k_ => True) (n := t432.length) (c := co56) ?_).2.2; exact (by (with_reducible repeat (first | apply Kd.R_alloc | apply Kd.R_drewN | apply Kd.R_drew)); exact (Kd.R_mono (Kd.R_far (p := ⟨gb436, 5, none⟩) (Kd.R_far (p := ⟨gb436, 4, none⟩) (Kd.R_far (p := ⟨gb436, 3, none⟩) (Kd.R_far (p := ⟨gb436, 2, none⟩) (Kd.R_far (p := ⟨gb436, 1, none⟩) (Kd.R_far (p := ⟨gb436, 0, none⟩) (Kd.R_types HO434.out BK436.out (by decide)) (fun _ hk => hk.2) (.int .i64 t425)) (fun _ hk => hk.2) (.int .i64 t426)) (fun _ hk => hk.2) (.int .i64 t427)) (fun _ hk => hk.2) (.bool t428)) (fun _ hk => hk.2) (.slice Ao55 t429.length co55)) (fun _ hk => hk.2) (.slice Ao56 t432.length co56)) (fun _ h_ => h_.1)))); (case side4 => exact (Kd.R_reads' HO434.out).2.1); (case side5 => exact Kd.C_nil _ _); (case side6 => exact Nat.le_refl _); (case side7 => exact Kd.C_nil _ _); (case side8 => exact Nat.le_refl _); rintro e w57 ⟨rfl, hb⟩; refine ⟨_, rfl, ?_⟩; replace HO431 := Aside0.mk (Kd.R_below (by (with_reducible repeat (first | apply Kd.R_alloc | apply Kd.R_drewN | apply Kd.R_drew)); exact (Kd.R_mono (Kd.R_far (p := ⟨gb436, 5, none⟩) (Kd.R_far (p := ⟨gb436, 4, none⟩) (Kd.R_far (p := ⟨gb436, 3, none⟩) (Kd.R_far (p := ⟨gb436, 2, none⟩) (Kd.R_far (p := ⟨gb436, 1, none⟩) (Kd.R_far (p := ⟨gb436, 0, none⟩) (Kd.R_types HO431.out BK436.out (by decide)) (fun _ hk => hk.2) (.int .i64 t425)) (fun _ hk => hk.2) (.int .i64 t426)) (fun _ hk => hk.2) (.int .i64 t427)) (fun _ hk => hk.2) (.bool t428)) (fun _ hk => hk.2) (.slice Ao55 t429.length co55)) (fun _ hk => hk.2) (.slice Ao56 t432.length co56)) (fun _ h_ => h_.1))) hb); replace HO434 := Aside0.mk (Kd.R_below (by (with_reducible repeat (first | apply Kd.R_alloc | apply Kd.R_drewN | apply Kd.R_drew)); exact (Kd.R_mono (Kd.R_far (p := ⟨gb436, 5, none⟩) (Kd.R_far (p := ⟨gb436, 4, none⟩) (Kd.R_far (p := ⟨gb436, 3, none⟩) (Kd.R_far (p := ⟨gb436, 2, none⟩) (Kd.R_far (p := ⟨gb436, 1, none⟩) (Kd.R_far (p := ⟨gb436, 0, none⟩) (Kd.R_types HO434.out BK436.out (by decide)) (fun _ hk => hk.2) (.int .i64 t425)) (fun _ hk => hk.2) (.int .i64 t426)) (fun _ hk => hk.2) (.int .i64 t427)) (fun _ hk => hk.2) (.bool t428)) (fun _ hk => hk.2) (.slice Ao55 t429.length co55)) (fun _ hk => hk.2) (.slice Ao56 t432.length co56)) (fun _ h_ => h_.1))) hb); replace BK405 := Aside0.mk (blk_below (g := gb405) (o := .cells #[.int .i64 a0_0, .int .i64 a0_1, .int .i64 a0_2, .bool a0_3, .slice A0_4 l0_4.length c0_4, .slice A0_5 l0_5.length c0_5] 25 (0, 0)) (by (with_reducible repeat (first | refine blk_drewN ?_ _ | refine blk_drew ?_ | refine blk_alloc ?_ _)); refine blk_far ?_ NB405_436.out _; (with_reducible repeat (first | refine blk_drewN ?_ _ | refine blk_drew ?_ | refine blk_alloc ?_ _)); refine blk_far ?_ NB405_436.out _; (with_reducible repeat (first | refine blk_drewN ?_ _ | refine blk_drew ?_ | refine blk_alloc ?_ _)); refine blk_far ?_ NB405_436.out _; (with_reducible repeat (first | refine blk_drewN ?_ _ | refine blk_drew ?_ | refine blk_alloc ?_ _)); refine blk_far ?_ NB405_436.out _; (with_reducible repeat (first | refine blk_drewN ?_ _ | refine blk_drew ?_ | refine blk_alloc ?_ _)); refine blk_far ?_ NB405_436.out _; (with_reducible repeat (first | refine blk_drewN ?_ _ | refine blk_drew ?_ | refine blk_alloc ?_ _)); refine blk_far ?_ NB405_436.out _; (with_reducible repeat (first | refine blk_drewN ?_ _ | refine blk_drew ?_ | refine blk_alloc ?_ _)); exact BK405.out) hb); replace BK436 := Aside0.mk (blk_below (g := gb436) (o := .cells #[.int .i64 t425, .int .i64 t426, .int .i64 t427, .bool t428, .slice Ao55 t429.length co55, .slice Ao56 t432.length co56] 25 (0, 0)) (by (with_reducible repeat (first | refine blk_drewN ?_ _ | refine blk_drew ?_ | refine blk_alloc ?_ _)); refine blk_put (cs := #[.int .i64 t425, .int .i64 t426, .int .i64 t427, .bool t428, .slice Ao55 t429.length co55, .slice none 0 0]) ?_ 5 _ rfl; (with_reducible repeat (first | refine blk_drewN ?_ _ | refine blk_drew ?_ | refine blk_alloc ?_ _)); refine blk_put (cs := #[.int .i64 t425, .int .i64 t426, .int .i64 t427, .bool t428, .slice none 0 0, .slice none 0 0]) ?_ 4 _ rfl; (with_reducible repeat (first | refine blk_drewN ?_ _ | refine blk_drew ?_ | refine blk_alloc ?_ _)); refine blk_put (cs := #[.int .i64 t425, .int .i64 t426, .int .i64 t427, .bool false, .slice none 0 0, .slice none 0 0]) ?_ 3 _ rfl; (with_reducible repeat (first | refine blk_drewN ?_ _ | refine blk_drew ?_ | refine blk_alloc ?_ _)); refine blk_put (cs := #[.int .i64 t425, .int .i64 t426, .int .i64 0, .bool false, .slice none 0 0, .slice none 0 0]) ?_ 2 _ rfl; (with_reducible repeat (first | refine blk_drewN ?_ _ | refine blk_drew ?_ | refine blk_alloc ?_ _)); refine blk_put (cs := #[.int .i64 t425, .int .i64 0, .int .i64 0, .bool false, .slice none 0 0, .slice none 0 0]) ?_ 1 _ rfl; (with_reducible repeat (first | refine blk_drewN ?_ _ | refine blk_drew ?_ | refine blk_alloc ?_ _)); refine blk_put (cs := #[.int .i64 0, .int .i64 0, .int .i64 0, .bool false, .slice none 0 0, .slice none 0 0]) ?_ 0 _ rfl; (with_reducible repeat (first | refine blk_drewN ?_ _ | refine blk_drew ?_ | refine blk_alloc ?_ _)); exact BK436.out) hb); replace HB := Aside0.mk (below_step (by repeat (first | (with_reducible first | exact HB.out | apply bA | apply bN | apply bD | apply bS GE405.out | apply bS GE436.out) | exact HB.out)) hb); (try clear hb); (try clear hb2); (try clear hk); (try clear hi)))
        go_ret
        exact ⟨by first | rfl | (simp [errW_none, errW_some] <;> rfl) | (simp [*, errW_none, errW_some] <;> rfl), by repeat (first | (with_reducible first | exact HB.out | apply bA | apply bN | apply bD | apply bS GE405.out | apply bS GE436.out) | exact HB.out)⟩
 ·replace c4 := Bool.eq_false_iff.mpr c4
  subst c4
  have H1 : (none) = some r := by rw [if_neg (show ¬ (false = true) by decide)] at H; exact H
  clear H
  have H := H1
  clear H1
  exact absurd H (by simp)

end Go.Proofs.Ytmknjjfdlkgidaa.HLsc
