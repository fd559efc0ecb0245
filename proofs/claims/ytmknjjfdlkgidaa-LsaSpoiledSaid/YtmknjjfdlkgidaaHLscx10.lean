-- LAID by wip/hand.py, a program of this repository, over the kit's print: contracts of our own are put in. Lean checks it.
import Derived.Test.YtmknjjfdlkgidaaHLscx0
import Derived.Test.YtmknjjfdlkgidaaHLscx4
import Derived.Test.YtmknjjfdlkgidaaHLscx6
import Derived.Test.YtmknjjfdlkgidaaHLscx7
import Derived.Test.YtmknjjfdlkgidaaHLscx8
import Derived.Test.YtmknjjfdlkgidaaHLscx9
namespace Go.Proofs.Ytmknjjfdlkgidaa.HLsc
open Go.RowKit Go.Proofs.YtmknjjfdlkgidaaW.PrintWords Go.Proofs.YtmknjjfdlkgidaaW.PrintLast Go.Proofs.YtmknjjfdlkgidaaW.PrintMore
attribute [local go_sem] gtr_str leq_str max2_int min2_int max_two min_two max_three min_three max_four min_four   -- for this text's walks alone
set_option linter.unusedVariables false
set_option linter.unusedSimpArgs false

/-! ### lsa_young: function 47 -/
def lsa_young.f (k : Nat) (a0_0 : Int) (a0_1 : Int) (a0_2 : Int) (a0_3 : Bool) (l0_4 : List (S43)) (l0_5 : List (S56)) : Option (List Int) := (lsa_Encode.f k a0_0 a0_1 0 a0_3 l0_4 l0_5).bind fun bt247 => (some bt247.1)
theorem lsa_young.mono : ∀ a0 a1 a2 a3 a4 a5 k, LeO (lsa_young.f k a0 a1 a2 a3 a4 a5) (lsa_young.f (k + 1) a0 a1 a2 a3 a4 a5) := by
 intro a0 a1 a2 a3 a4 a5 k
 unfold lsa_young.f
 repeat' first
   | (with_reducible exact lsa_Encode.mono _ _ _ _ _ _ _)
   | (with_reducible exact LeO.refl _)
   | (with_reducible exact LeO.none _)
   | (with_reducible refine LeO.ite ?_ ?_)
   | (with_reducible refine LeO.bind ?_ (fun _ => ?_))
   | exact lsa_Encode.mono _ _ _ _ _ _ _
   | exact LeO.none _
   | refine LeO.ite ?_ ?_
   | refine LeO.bind ?_ (fun _ => ?_)
set_option maxHeartbeats 8000000 in
set_option maxRecDepth 100000 in
theorem lsa_young.calls (k : Nat) (a0_0 : Int) (a0_1 : Int) (a0_2 : Int) (a0_3 : Bool) (A0_4 : Option Addr) (c0_4 : Nat) (l0_4 : List (S43)) (A0_5 : Option Addr) (c0_5 : Nat) (l0_5 : List (S56)) (r : List Int) (w : World) (hr0_4 : Kd.C k43 w A0_4 l0_4.length l0_4) (hc0_4 : l0_4.length ≤ c0_4) (hr0_5 : Kd.C k56 w A0_5 l0_5.length l0_5) (hc0_5 : l0_5.length ≤ c0_5) (h : lsa_young.f k a0_0 a0_1 a0_2 a0_3 l0_4 l0_5 = some r) :
  Calls Try.prog 47 #[.agg #[.int .i64 a0_0, .int .i64 a0_1, .int .i64 a0_2, .bool a0_3, .slice A0_4 l0_4.length c0_4, .slice A0_5 l0_5.length c0_5]] w fun e w' => ∃ v0_ : Value, e = .returned (v0_) ∧ Kd.R (Kd.int .u8) 5 w' w.heap.size (fun _ => True) v0_ r ∧ Below w.heap.size w w' := by
 have hu25 := Try.underlying25
 have HR0_4 := Aside0.mk hr0_4
 have HC0_4 := Aside0.mk hc0_4
 clear hr0_4 hc0_4
 have HR0_5 := Aside0.mk hr0_5
 have HC0_5 := Aside0.mk hc0_5
 clear hr0_5 hc0_5
 have HB := Aside0.mk (Below.refl w.heap.size w)
 have H : ((lsa_Encode.f k a0_0 a0_1 0 a0_3 l0_4 l0_5).bind fun bt247 => (some bt247.1)) = some r := h
 clear h
 replace H := Option.bind_eq_some_iff.mp H
 obtain ⟨⟨t247, t250⟩, A20, H⟩ := H
 replace H : (some t247) = some r := H
 have A2 := Aside0.mk A20
 clear A20
 obtain rfl := Option.some.inj H
 go_enter Try.func47, Try.ntmps47
 go_wp2_with (first | ((with_reducible refine gate_dst (N := 1) rfl ?_); refine bx_ 1 #[.int .i64 a0_0, .int .i64 a0_1, .int .i64 a0_2, .bool a0_3, .slice A0_4 l0_4.length c0_4, .slice A0_5 l0_5.length c0_5] 25 rfl rfl ?hr ?_; (case hr => go_simp; try rfl); intro gb246 hg w3 hbox hb; have BK246 := Aside0.mk (hbox); have GW246 := gs_ HB hg; have GE246 := gs_ HB hg; replace HB := bs_ HB hb; clear hb hbox hg; obtain ⟨hcz4_0, hcz4_1, hcz4_2, hcz4_3, hcz4_4, hcz4_5, hfz4_0, hfz4_1, hfz4_2, hfz4_3, hfz4_4, hfz4_5⟩ := c6_ BK246) | ((with_reducible refine gate_callee (f := 12) rfl ?_); refine goesL_ (some 8) rfl rfl Try.func12 (by kernel_rfl) rfl #[.agg #[.int .i64 a0_0, .int .i64 a0_1, .int .i64 0, .bool a0_3, .slice A0_4 l0_4.length c0_4, .slice A0_5 l0_5.length c0_5]] rfl (by (try simp only [List.map_toArray, List.map_cons, List.map_nil]); first | done | rfl | (simp only [List.length_drop, List.length_take]; rfl)) ?_; (with_reducible refine (lsa_Encode.calls k a0_0 a0_1 0 a0_3 _ _ l0_4 _ _ l0_5 t247 t250 _ ?side1 ?side2 ?side3 ?side4 A2.out).mono ?_); (case side1 => exact Kd.C_below HR0_4.out (by repeat (first | (with_reducible first | exact HB.out | apply bU | apply bS GE246.out) | exact HB.out))); (case side2 => exact HC0_4.out); (case side3 => exact Kd.C_below HR0_5.out (by repeat (first | (with_reducible first | exact HB.out | apply bU | apply bS GE246.out) | exact HB.out))); (case side4 => exact HC0_5.out); rintro e w5 ⟨v248, rfl, ho0, hb⟩; refine ⟨_, rfl, ?_⟩; have HO249 := Aside0.mk (Kd.R_lower ho0 (below_size (by repeat (first | (with_reducible first | exact HB.out | apply bU | apply bS GE246.out) | exact HB.out)))); replace BK246 := Aside0.mk (blk_below (g := gb246) (o := .cells #[.int .i64 a0_0, .int .i64 a0_1, .int .i64 0, .bool a0_3, .slice A0_4 l0_4.length c0_4, .slice A0_5 l0_5.length c0_5] 25 (0, 0)) (by (with_reducible repeat (first | refine blk_drewN ?_ _ | refine blk_drew ?_ | refine blk_alloc ?_ _)); refine blk_put (cs := #[.int .i64 a0_0, .int .i64 a0_1, .int .i64 a0_2, .bool a0_3, .slice A0_4 l0_4.length c0_4, .slice A0_5 l0_5.length c0_5]) ?_ 2 _ rfl; (with_reducible repeat (first | refine blk_drewN ?_ _ | refine blk_drew ?_ | refine blk_alloc ?_ _)); exact BK246.out) hb); replace HB := Aside0.mk (below_step (by repeat (first | (with_reducible first | exact HB.out | apply bU | apply bS GE246.out) | exact HB.out)) hb); (try clear hb); (try clear hb2); (try clear hk); (try clear hi); (try clear ho0)))
 go_ret
 exact ⟨_, by first | rfl | (simp [errW_none, errW_some] <;> rfl) | (simp [*, errW_none, errW_some] <;> rfl), by (with_reducible repeat (first | apply Kd.R_alloc | apply Kd.R_drewN | apply Kd.R_drew)); exact HO249.out, by repeat (first | (with_reducible first | exact HB.out | apply bU | apply bS GE246.out) | exact HB.out)⟩

/-! ### lsa_Newer: function 21 -/
def lsa_Newer.j0 : Nat → Bool → Int → Int → Int → Bool → List (S43) → List (S56) → Int → Int → Int → Bool → List (S43) → List (S56) → Option (Int)
 | 0, _, _, _, _, _, _, _, _, _, _, _, _, _ => none
 | k + 1, x5, x252000, x252001, x252002, x252003, x252004, x252005, x253000, x253001, x253002, x253003, x253004, x253005 => if x5 = true then (some 0) else (if x252001 = x253001 then ((lsa_purge.f x252000 x252001 x252002 x252003 x252004 x252005).bind fun t255 => ((lsa_purge.f x253000 x253001 x253002 x253003 x253004 x253005).bind fun t256 => (if t255 = t256 then ((lsa_young.f k x252000 x252001 x252002 x252003 x252004 x252005).bind fun t260 => ((lsa_young.f k x253000 x253001 x253002 x253003 x253004 x253005).bind fun t263 => ((bytes_Compare.f t260 t263).bind fun t266 => (some t266)))) else ((lsa_purge.f x252000 x252001 x252002 x252003 x252004 x252005).bind fun t257 => ((lsa_purge.f x253000 x253001 x253002 x253003 x253004 x253005).bind fun t258 => (some (wrap64 (t257 - t258)))))))) else ((lsa_sign.f (wrap64 (x252001 - x253001))).bind fun t259 => (some t259)))
def lsa_Newer.f (k : Nat) (a0_0 : Int) (a0_1 : Int) (a0_2 : Int) (a0_3 : Bool) (l0_4 : List (S43)) (l0_5 : List (S56)) (a1_0 : Int) (a1_1 : Int) (a1_2 : Int) (a1_3 : Bool) (l1_4 : List (S43)) (l1_5 : List (S56)) : Option (Int) := (lsa_Valid.f k a0_0 a0_1 a0_2 a0_3 l0_4 l0_5).bind fun t253 => (if t253 = true then ((lsa_Valid.f k a1_0 a1_1 a1_2 a1_3 l1_4 l1_5).bind fun t254 => (lsa_Newer.j0 k (!t254) a0_0 a0_1 a0_2 a0_3 l0_4 l0_5 a1_0 a1_1 a1_2 a1_3 l1_4 l1_5)) else (lsa_Newer.j0 k true a0_0 a0_1 a0_2 a0_3 l0_4 l0_5 a1_0 a1_1 a1_2 a1_3 l1_4 l1_5))
theorem lsa_Newer.mono_l : ∀ k, (∀ y0 y1 y2 y3 y4 y5 y6 y7 y8 y9 y10 y11 y12, LeO (lsa_Newer.j0 k y0 y1 y2 y3 y4 y5 y6 y7 y8 y9 y10 y11 y12) (lsa_Newer.j0 (k + 1) y0 y1 y2 y3 y4 y5 y6 y7 y8 y9 y10 y11 y12))
 | 0 => fun _ _ _ _ _ _ _ _ _ _ _ _ _ r h => by simp [lsa_Newer.j0] at h
 | k + 1 => by
  have ih0 := lsa_Newer.mono_l k
  ·intro y0 y1 y2 y3 y4 y5 y6 y7 y8 y9 y10 y11 y12
   unfold lsa_Newer.j0
   repeat' first
   | (with_reducible exact ih0 _ _ _ _ _ _ _ _ _ _ _ _ _)
   | (with_reducible exact lsa_Valid.mono _ _ _ _ _ _ _)
   | (with_reducible exact lsa_young.mono _ _ _ _ _ _ _)
   | (with_reducible exact LeO.refl _)
   | (with_reducible exact LeO.none _)
   | (with_reducible refine LeO.ite ?_ ?_)
   | (with_reducible refine LeO.bind ?_ (fun _ => ?_))
   | exact ih0 _ _ _ _ _ _ _ _ _ _ _ _ _
   | exact lsa_Valid.mono _ _ _ _ _ _ _
   | exact lsa_young.mono _ _ _ _ _ _ _
   | exact LeO.none _
   | refine LeO.ite ?_ ?_
   | refine LeO.bind ?_ (fun _ => ?_)
theorem lsa_Newer.mono : ∀ a0 a1 a2 a3 a4 a5 a6 a7 a8 a9 a10 a11 k, LeO (lsa_Newer.f k a0 a1 a2 a3 a4 a5 a6 a7 a8 a9 a10 a11) (lsa_Newer.f (k + 1) a0 a1 a2 a3 a4 a5 a6 a7 a8 a9 a10 a11) := by
 intro a0 a1 a2 a3 a4 a5 a6 a7 a8 a9 a10 a11 k
 have ih0 := lsa_Newer.mono_l k
 unfold lsa_Newer.f
 repeat' first
   | (with_reducible exact ih0 _ _ _ _ _ _ _ _ _ _ _ _ _)
   | (with_reducible exact lsa_Valid.mono _ _ _ _ _ _ _)
   | (with_reducible exact lsa_young.mono _ _ _ _ _ _ _)
   | (with_reducible exact LeO.refl _)
   | (with_reducible exact LeO.none _)
   | (with_reducible refine LeO.ite ?_ ?_)
   | (with_reducible refine LeO.bind ?_ (fun _ => ?_))
   | exact ih0 _ _ _ _ _ _ _ _ _ _ _ _ _
   | exact lsa_Valid.mono _ _ _ _ _ _ _
   | exact lsa_young.mono _ _ _ _ _ _ _
   | exact LeO.none _
   | refine LeO.ite ?_ ?_
   | refine LeO.bind ?_ (fun _ => ?_)
set_option maxHeartbeats 8000000 in
set_option maxRecDepth 100000 in
theorem lsa_Newer.calls (k : Nat) (a0_0 : Int) (a0_1 : Int) (a0_2 : Int) (a0_3 : Bool) (A0_4 : Option Addr) (c0_4 : Nat) (l0_4 : List (S43)) (A0_5 : Option Addr) (c0_5 : Nat) (l0_5 : List (S56)) (a1_0 : Int) (a1_1 : Int) (a1_2 : Int) (a1_3 : Bool) (A1_4 : Option Addr) (c1_4 : Nat) (l1_4 : List (S43)) (A1_5 : Option Addr) (c1_5 : Nat) (l1_5 : List (S56)) (r : Int) (w : World) (hr0_4 : Kd.C k43 w A0_4 l0_4.length l0_4) (hc0_4 : l0_4.length ≤ c0_4) (hr0_5 : Kd.C k56 w A0_5 l0_5.length l0_5) (hc0_5 : l0_5.length ≤ c0_5) (hr1_4 : Kd.C k43 w A1_4 l1_4.length l1_4) (hc1_4 : l1_4.length ≤ c1_4) (hr1_5 : Kd.C k56 w A1_5 l1_5.length l1_5) (hc1_5 : l1_5.length ≤ c1_5) (h : lsa_Newer.f k a0_0 a0_1 a0_2 a0_3 l0_4 l0_5 a1_0 a1_1 a1_2 a1_3 l1_4 l1_5 = some r) :
  Calls Try.prog 21 #[.agg #[.int .i64 a0_0, .int .i64 a0_1, .int .i64 a0_2, .bool a0_3, .slice A0_4 l0_4.length c0_4, .slice A0_5 l0_5.length c0_5], .agg #[.int .i64 a1_0, .int .i64 a1_1, .int .i64 a1_2, .bool a1_3, .slice A1_4 l1_4.length c1_4, .slice A1_5 l1_5.length c1_5]] w fun e w' => e = .returned (.int .i64 r) ∧ Below w.heap.size w w' := by
 have hu25 := Try.underlying25
 have HR0_4 := Aside0.mk hr0_4
 have HC0_4 := Aside0.mk hc0_4
 clear hr0_4 hc0_4
 have HR0_5 := Aside0.mk hr0_5
 have HC0_5 := Aside0.mk hc0_5
 clear hr0_5 hc0_5
 have HR1_4 := Aside0.mk hr1_4
 have HC1_4 := Aside0.mk hc1_4
 clear hr1_4 hc1_4
 have HR1_5 := Aside0.mk hr1_5
 have HC1_5 := Aside0.mk hc1_5
 clear hr1_5 hc1_5
 have HB := Aside0.mk (Below.refl w.heap.size w)
 have H : ((lsa_Valid.f k a0_0 a0_1 a0_2 a0_3 l0_4 l0_5).bind fun t253 => (if t253 = true then ((lsa_Valid.f k a1_0 a1_1 a1_2 a1_3 l1_4 l1_5).bind fun t254 => (lsa_Newer.j0 k (!t254) a0_0 a0_1 a0_2 a0_3 l0_4 l0_5 a1_0 a1_1 a1_2 a1_3 l1_4 l1_5)) else (lsa_Newer.j0 k true a0_0 a0_1 a0_2 a0_3 l0_4 l0_5 a1_0 a1_1 a1_2 a1_3 l1_4 l1_5))) = some r := h
 clear h
 have HC3 := Aside0.mk H
 clear H
 go_enter Try.func21, Try.ntmps21
 go_upto_region 1 with (first | ((with_reducible refine gate_dst (N := 2) rfl ?_); refine bx_ 2 #[.int .i64 a0_0, .int .i64 a0_1, .int .i64 a0_2, .bool a0_3, .slice A0_4 l0_4.length c0_4, .slice A0_5 l0_5.length c0_5] 25 rfl rfl ?hr ?_; (case hr => go_simp; try rfl); intro gb251 hg w4 hbox hb; have BK251 := Aside0.mk (hbox); have GW251 := gs_ HB hg; have GE251 := gs_ HB hg; replace HB := bs_ HB hb; clear hb hbox hg) | ((with_reducible refine gate_dst (N := 3) rfl ?_); refine bx_ 3 #[.int .i64 a1_0, .int .i64 a1_1, .int .i64 a1_2, .bool a1_3, .slice A1_4 l1_4.length c1_4, .slice A1_5 l1_5.length c1_5] 25 rfl rfl ?hr ?_; (case hr => go_simp; try rfl); intro gb252 hg w5 hbox hb; have BK252 := Aside0.mk (hbox); have GW252 := Aside0.mk ((by rw [hg]; exact (below_size (by repeat (first | (with_reducible first | exact HB.out | apply bU | apply bS GE251.out) | exact HB.out))) : w.heap.size ≤ gb252)); have GE252 := Aside0.mk ((by rw [hg]; exact (below_size (by repeat (first | (with_reducible first | exact HB.out | apply bU | apply bS GE251.out) | exact HB.out))) : w.heap.size ≤ gb252)); have NB251_252 := nl_ BK251 hg; have NB252_251 := ng_ BK251 hg; replace BK251 := bb_ BK251 hb; replace HB := Aside0.mk (below_step (by repeat (first | (with_reducible first | exact HB.out | apply bU | apply bS GE251.out) | exact HB.out)) hb); clear hb hbox hg))
 (try simp only [Act.put, List.setIfInBounds_toArray, List.set_cons_zero, List.set_cons_succ])
 go_cut [5] (fun v5 wc => ∃ (kq : Nat) (x5_2 : Bool), v5 = .bool x5_2 ∧ Aside0 (lsa_Newer.j0 kq x5_2 a0_0 a0_1 a0_2 a0_3 l0_4 l0_5 a1_0 a1_1 a1_2 a1_3 l1_4 l1_5 = some r) ∧ Aside0 (kq ≤ k) ∧ Aside0 (wc.heap[gb251]? = some (.cells #[.int .i64 a0_0, .int .i64 a0_1, .int .i64 a0_2, .bool a0_3, (.slice A0_4 l0_4.length c0_4), (.slice A0_5 l0_5.length c0_5)] 25 (0, 0))) ∧ Aside0 (wc.heap[gb252]? = some (.cells #[.int .i64 a1_0, .int .i64 a1_1, .int .i64 a1_2, .bool a1_3, (.slice A1_4 l1_4.length c1_4), (.slice A1_5 l1_5.length c1_5)] 25 (0, 0))) ∧ Aside0 (Below w.heap.size w wc))
 case first =>
  have H := HC3.out
  clear HC3
  replace H := Option.bind_eq_some_iff.mp H
  obtain ⟨t253, A60, H⟩ := H
  replace H : (if t253 = true then ((lsa_Valid.f k a1_0 a1_1 a1_2 a1_3 l1_4 l1_5).bind fun t254 => (lsa_Newer.j0 k (!t254) a0_0 a0_1 a0_2 a0_3 l0_4 l0_5 a1_0 a1_1 a1_2 a1_3 l1_4 l1_5)) else (lsa_Newer.j0 k true a0_0 a0_1 a0_2 a0_3 l0_4 l0_5 a1_0 a1_1 a1_2 a1_3 l1_4 l1_5)) = some r := H
  have A6 := Aside0.mk A60
  clear A60
  by_cases c7 : t253 = true
  ·subst c7
   have H1 : ((lsa_Valid.f k a1_0 a1_1 a1_2 a1_3 l1_4 l1_5).bind fun t254 => (lsa_Newer.j0 k (!t254) a0_0 a0_1 a0_2 a0_3 l0_4 l0_5 a1_0 a1_1 a1_2 a1_3 l1_4 l1_5)) = some r := by rw [if_pos rfl] at H; exact H
   clear H
   have H := H1
   clear H1
   replace H := Option.bind_eq_some_iff.mp H
   obtain ⟨t254, A80, H⟩ := H
   replace H : (lsa_Newer.j0 k (!t254) a0_0 a0_1 a0_2 a0_3 l0_4 l0_5 a1_0 a1_1 a1_2 a1_3 l1_4 l1_5) = some r := H
   have A8 := Aside0.mk A80
   clear A80
   have H' := Aside0.mk H
   clear H
   have hnb9 := NB251_252.out
   have hnc9 := NB252_251.out
   obtain ⟨hcz10_0, hcz10_1, hcz10_2, hcz10_3, hcz10_4, hcz10_5, hfz10_0, hfz10_1, hfz10_2, hfz10_3, hfz10_4, hfz10_5⟩ := c6_ BK251
   go_wp2_with (first | ((with_reducible refine gate_callee (f := 14) rfl ?_); refine goesL_ (some 7) rfl rfl Try.func14 (by kernel_rfl) rfl #[.agg #[.int .i64 a0_0, .int .i64 a0_1, .int .i64 a0_2, .bool a0_3, .slice A0_4 l0_4.length c0_4, .slice A0_5 l0_5.length c0_5]] rfl (by (try simp only [List.map_toArray, List.map_cons, List.map_nil]); first | done | rfl | (simp only [List.length_drop, List.length_take]; rfl)) ?_; (with_reducible refine (lsa_Valid.calls k a0_0 a0_1 a0_2 a0_3 _ _ l0_4 _ _ l0_5 true _ ?side1 ?side2 ?side3 ?side4 A6.out).mono ?_); (case side1 => exact cs_ HR0_4 HB); (case side2 => exact HC0_4.out); (case side3 => exact cs_ HR0_5 HB); (case side4 => exact HC0_5.out); rintro e w11 ⟨rfl, hb⟩; refine ⟨_, rfl, ?_⟩; replace BK251 := bb_ BK251 hb; replace BK252 := bb_ BK252 hb; replace HB := Aside0.mk (below_step (by repeat (first | (with_reducible first | exact HB.out | apply bU | apply bS GE251.out | apply bS GE252.out) | exact HB.out)) hb); (try clear hb); (try clear hb2); (try clear hk); (try clear hi); obtain ⟨hcz12_0, hcz12_1, hcz12_2, hcz12_3, hcz12_4, hcz12_5, hfz12_0, hfz12_1, hfz12_2, hfz12_3, hfz12_4, hfz12_5⟩ := c6_ BK252) | (go_at_call 14; (with_reducible refine (lsa_Valid.calls k a1_0 a1_1 a1_2 a1_3 _ _ l1_4 _ _ l1_5 t254 _ ?side1 ?side2 ?side3 ?side4 A8.out).mono ?_); (case side1 => exact cs_ HR1_4 HB); (case side2 => exact HC1_4.out); (case side3 => exact cs_ HR1_5 HB); (case side4 => exact HC1_5.out); rintro e w13 ⟨rfl, hb⟩; replace BK251 := bb_ BK251 hb; replace BK252 := bb_ BK252 hb; replace HB := Aside0.mk (below_step (by repeat (first | (with_reducible first | exact HB.out | apply bU | apply bS GE251.out | apply bS GE252.out) | exact HB.out)) hb); (try clear hb); (try clear hb2); (try clear hk); (try clear hi)))
   go_meet
   case rel => exact ⟨_, (!t254), (by first | rfl | (simp; done) | (simp [*]; done)), H', ⟨by first | omega | exact Nat.le_refl _⟩, ⟨kb_ BK251⟩, ⟨kb_ BK252⟩, ⟨by repeat (first | (with_reducible first | exact HB.out | apply bU | apply bS GE251.out | apply bS GE252.out) | exact HB.out)⟩⟩
  ·replace c7 := Bool.eq_false_iff.mpr c7
   subst c7
   have H1 : (lsa_Newer.j0 k true a0_0 a0_1 a0_2 a0_3 l0_4 l0_5 a1_0 a1_1 a1_2 a1_3 l1_4 l1_5) = some r := by rw [if_neg (show ¬ (false = true) by decide)] at H; exact H
   clear H
   have H := H1
   clear H1
   have H' := Aside0.mk H
   clear H
   have hnb14 := NB251_252.out
   have hnc14 := NB252_251.out
   obtain ⟨hcz15_0, hcz15_1, hcz15_2, hcz15_3, hcz15_4, hcz15_5, hfz15_0, hfz15_1, hfz15_2, hfz15_3, hfz15_4, hfz15_5⟩ := c6_ BK251
   go_wp2_with (first | ((with_reducible refine gate_callee (f := 14) rfl ?_); refine goesL_ (some 7) rfl rfl Try.func14 (by kernel_rfl) rfl #[.agg #[.int .i64 a0_0, .int .i64 a0_1, .int .i64 a0_2, .bool a0_3, .slice A0_4 l0_4.length c0_4, .slice A0_5 l0_5.length c0_5]] rfl (by (try simp only [List.map_toArray, List.map_cons, List.map_nil]); first | done | rfl | (simp only [List.length_drop, List.length_take]; rfl)) ?_; (with_reducible refine (lsa_Valid.calls k a0_0 a0_1 a0_2 a0_3 _ _ l0_4 _ _ l0_5 false _ ?side1 ?side2 ?side3 ?side4 A6.out).mono ?_); (case side1 => exact cs_ HR0_4 HB); (case side2 => exact HC0_4.out); (case side3 => exact cs_ HR0_5 HB); (case side4 => exact HC0_5.out); rintro e w16 ⟨rfl, hb⟩; refine ⟨_, rfl, ?_⟩; replace BK251 := bb_ BK251 hb; replace BK252 := bb_ BK252 hb; replace HB := Aside0.mk (below_step (by repeat (first | (with_reducible first | exact HB.out | apply bU | apply bS GE251.out | apply bS GE252.out) | exact HB.out)) hb); (try clear hb); (try clear hb2); (try clear hk); (try clear hi)))
   go_meet
   case rel => exact ⟨_, (true), (by first | rfl | (simp; done) | (simp [*]; done)), H', ⟨by first | omega | exact Nat.le_refl _⟩, ⟨kb_ BK251⟩, ⟨kb_ BK252⟩, ⟨by repeat (first | (with_reducible first | exact HB.out | apply bU | apply bS GE251.out | apply bS GE252.out) | exact HB.out)⟩⟩
 case rest =>
  clear HC3
  obtain ⟨kq, x5_2, rfl, HA, HJ2, BK251, BK252, HB⟩ := hcut
  cases kq with
  | zero => exact absurd HA.out (by simp [lsa_Newer.j0])
  | succ kj2 =>
   have H := HA.out
   clear HA
   simp only [lsa_Newer.j0] at H
   by_cases c17 : x5_2 = true
   ·subst c17
    have H1 : (some 0) = some r := by rw [if_pos rfl] at H; exact H
    clear H
    have H := H1
    clear H1
    obtain rfl := Option.some.inj H
    go_wp2
    go_ret
    exact ⟨by first | rfl | (simp [errW_none, errW_some] <;> rfl) | (simp [*, errW_none, errW_some] <;> rfl), by repeat (first | (with_reducible first | exact HB.out | apply bU | apply bS GE251.out | apply bS GE252.out) | exact HB.out)⟩
   ·replace c17 := Bool.eq_false_iff.mpr c17
    subst c17
    have H1 : (if a0_1 = a1_1 then ((lsa_purge.f a0_0 a0_1 a0_2 a0_3 l0_4 l0_5).bind fun t255 => ((lsa_purge.f a1_0 a1_1 a1_2 a1_3 l1_4 l1_5).bind fun t256 => (if t255 = t256 then ((lsa_young.f kj2 a0_0 a0_1 a0_2 a0_3 l0_4 l0_5).bind fun t260 => ((lsa_young.f kj2 a1_0 a1_1 a1_2 a1_3 l1_4 l1_5).bind fun t263 => ((bytes_Compare.f t260 t263).bind fun t266 => (some t266)))) else ((lsa_purge.f a0_0 a0_1 a0_2 a0_3 l0_4 l0_5).bind fun t257 => ((lsa_purge.f a1_0 a1_1 a1_2 a1_3 l1_4 l1_5).bind fun t258 => (some (wrap64 (t257 - t258)))))))) else ((lsa_sign.f (wrap64 (a0_1 - a1_1))).bind fun t259 => (some t259))) = some r := by rw [if_neg (show ¬ (false = true) by decide)] at H; exact H
    clear H
    have H := H1
    clear H1
    by_cases c18 : a0_1 = a1_1
    ·rw [if_pos c18] at H
     have c18b0 : (a0_1 == a1_1) = true := beq_iff_eq.mpr c18
     have c18b1 : (a0_1 != a1_1) = false := bne_eq_false_iff_eq.mpr c18
     clear c18
     replace H := Option.bind_eq_some_iff.mp H
     obtain ⟨t255, A190, H⟩ := H
     replace H : ((lsa_purge.f a1_0 a1_1 a1_2 a1_3 l1_4 l1_5).bind fun t256 => (if t255 = t256 then ((lsa_young.f kj2 a0_0 a0_1 a0_2 a0_3 l0_4 l0_5).bind fun t260 => ((lsa_young.f kj2 a1_0 a1_1 a1_2 a1_3 l1_4 l1_5).bind fun t263 => ((bytes_Compare.f t260 t263).bind fun t266 => (some t266)))) else ((lsa_purge.f a0_0 a0_1 a0_2 a0_3 l0_4 l0_5).bind fun t257 => ((lsa_purge.f a1_0 a1_1 a1_2 a1_3 l1_4 l1_5).bind fun t258 => (some (wrap64 (t257 - t258))))))) = some r := H
     have A19 := Aside0.mk A190
     clear A190
     replace H := Option.bind_eq_some_iff.mp H
     obtain ⟨t256, A200, H⟩ := H
     replace H : (if t255 = t256 then ((lsa_young.f kj2 a0_0 a0_1 a0_2 a0_3 l0_4 l0_5).bind fun t260 => ((lsa_young.f kj2 a1_0 a1_1 a1_2 a1_3 l1_4 l1_5).bind fun t263 => ((bytes_Compare.f t260 t263).bind fun t266 => (some t266)))) else ((lsa_purge.f a0_0 a0_1 a0_2 a0_3 l0_4 l0_5).bind fun t257 => ((lsa_purge.f a1_0 a1_1 a1_2 a1_3 l1_4 l1_5).bind fun t258 => (some (wrap64 (t257 - t258)))))) = some r := H
     have A20 := Aside0.mk A200
     clear A200
     by_cases c21 : t255 = t256
     ·rw [if_pos c21] at H
      have c21b0 : (t255 == t256) = true := beq_iff_eq.mpr c21
      have c21b1 : (t255 != t256) = false := bne_eq_false_iff_eq.mpr c21
      clear c21
      replace H := Option.bind_eq_some_iff.mp H
      obtain ⟨t260, A220, H⟩ := H
      replace H : ((lsa_young.f kj2 a1_0 a1_1 a1_2 a1_3 l1_4 l1_5).bind fun t263 => ((bytes_Compare.f t260 t263).bind fun t266 => (some t266))) = some r := H
      have A22 := Aside0.mk A220
      clear A220
      replace H := Option.bind_eq_some_iff.mp H
      obtain ⟨t263, A230, H⟩ := H
      replace H : ((bytes_Compare.f t260 t263).bind fun t266 => (some t266)) = some r := H
      have A23 := Aside0.mk A230
      clear A230
      replace H := Option.bind_eq_some_iff.mp H
      obtain ⟨t266, A240, H⟩ := H
      replace H : (some t266) = some r := H
      have A24 := Aside0.mk A240
      clear A240
      obtain rfl := Option.some.inj H
      have hnb25 := NB251_252.out
      have hnc25 := NB252_251.out
      obtain ⟨hcz26_0, hcz26_1, hcz26_2, hcz26_3, hcz26_4, hcz26_5, hfz26_0, hfz26_1, hfz26_2, hfz26_3, hfz26_4, hfz26_5⟩ := c6_ BK251
      obtain ⟨hcz27_0, hcz27_1, hcz27_2, hcz27_3, hcz27_4, hcz27_5, hfz27_0, hfz27_1, hfz27_2, hfz27_3, hfz27_4, hfz27_5⟩ := c6_ BK252
      try go_wp2
      replace BK251 := Aside0.mk (blk_drew BK251.out)
      replace BK252 := Aside0.mk (blk_drew BK252.out)
      replace HB := Aside0.mk (below_drew1 HB.out)
      refine start_ (n := 6) (S := fun w' => w'.cell? ⟨gb251, 0, none⟩ = some (.int .i64 a0_0) ∧ w'.cell? ⟨gb251, 1, none⟩ = some (.int .i64 a0_1) ∧ w'.cell? ⟨gb251, 2, none⟩ = some (.int .i64 a0_2) ∧ w'.cell? ⟨gb251, 3, none⟩ = some (.bool a0_3) ∧ w'.cell? ⟨gb251, 4, none⟩ = some (.slice A0_4 l0_4.length c0_4) ∧ w'.cell? ⟨gb251, 5, none⟩ = some (.slice A0_5 l0_5.length c0_5) ∧ w'.cell? ⟨gb252, 0, none⟩ = some (.int .i64 a1_0) ∧ w'.cell? ⟨gb252, 1, none⟩ = some (.int .i64 a1_1) ∧ w'.cell? ⟨gb252, 2, none⟩ = some (.int .i64 a1_2) ∧ w'.cell? ⟨gb252, 3, none⟩ = some (.bool a1_3) ∧ w'.cell? ⟨gb252, 4, none⟩ = some (.slice A1_4 l1_4.length c1_4) ∧ w'.cell? ⟨gb252, 5, none⟩ = some (.slice A1_5 l1_5.length c1_5)) (ds := []) #[false, false, false, false, false, false] (by kernel_rfl) rfl rfl ⟨(blk_cell BK251.out 0).trans rfl, (blk_cell BK251.out 1).trans rfl, (blk_cell BK251.out 2).trans rfl, (blk_cell BK251.out 3).trans rfl, (blk_cell BK251.out 4).trans rfl, (blk_cell BK251.out 5).trans rfl, (blk_cell BK252.out 0).trans rfl, (blk_cell BK252.out 1).trans rfl, (blk_cell BK252.out 2).trans rfl, (blk_cell BK252.out 3).trans rfl, (blk_cell BK252.out 4).trans rfl, (blk_cell BK252.out 5).trans rfl⟩ (fun hHeld => ?_)
      generalize wc.drew = w28 at BK251 BK252 HB hHeld ⊢
      refine take_ (i := 0) (N := some 27) (v := ?_) (a' := ?_) #[true, false, false, false, false, false] rfl rfl (by kernel_rfl) (fun _ _ _ h => h) (Or.inl ⟨by rfl, ?_⟩) hHeld ?_ ?_
      rotate_left
      ·rintro w' ⟨s0, s1, s2, s3, s4, s5, s6, s7, s8, s9, s10, s11⟩
       go_simp
       with_reducible rfl
      rotate_left
      ·simp only [Act.put, List.setIfInBounds_toArray, List.set_cons_zero, List.set_cons_succ, i64_w, i32_w]
       rfl
      refine take_ (i := 2) (N := some 29) (v := ?_) (a' := ?_) #[true, false, true, false, false, false] rfl rfl (by kernel_rfl) (fun _ _ _ h => h) (Or.inl ⟨by rfl, ?_⟩) hHeld ?_ ?_
      rotate_left
      ·rintro w' ⟨s0, s1, s2, s3, s4, s5, s6, s7, s8, s9, s10, s11⟩
       go_simp
       with_reducible rfl
      rotate_left
      ·simp only [Act.put, List.setIfInBounds_toArray, List.set_cons_zero, List.set_cons_succ, i64_w, i32_w]
       rfl
      refine one_ (i := 1) (N := some 28) #[true, true, true, false, false, false] rfl rfl (by kernel_rfl) (by decide) (fun K hK => ?_)
      refine goes_ Try.func45 (by kernel_rfl) rfl #[.agg #[.int .i64 a0_0, .int .i64 a0_1, .int .i64 a0_2, .bool a0_3, .slice A0_4 l0_4.length c0_4, .slice A0_5 l0_5.length c0_5]] (by rfl) rfl rfl (by (try simp only [List.map_toArray, List.map_cons, List.map_nil]); first | done | rfl | (simp only [List.length_drop, List.length_take]; rfl)) ?_
      with_reducible refine (lsa_purge.calls a0_0 a0_1 a0_2 a0_3 _ _ l0_4 _ _ l0_5 t255 _ ?side1 ?side2 ?side3 ?side4 A19.out).mono ?_
      (case side1 => exact cs_ HR0_4 HB)
      (case side2 => exact HC0_4.out)
      (case side3 => exact cs_ HR0_5 HB)
      (case side4 => exact HC0_5.out)
      rintro e w29 ⟨rfl, hb⟩
      refine ⟨_, rfl, ?_⟩
      replace BK251 := bb_ BK251 hb
      replace BK252 := bb_ BK252 hb
      replace HB := Aside0.mk (below_step (by repeat (first | (with_reducible first | exact HB.out | apply bU | apply bS GE251.out | apply bS GE252.out) | exact HB.out)) hb)
      (try clear hb)
      refine hK.out _ _ ⟨(blk_cell BK251.out 0).trans rfl, (blk_cell BK251.out 1).trans rfl, (blk_cell BK251.out 2).trans rfl, (blk_cell BK251.out 3).trans rfl, (blk_cell BK251.out 4).trans rfl, (blk_cell BK251.out 5).trans rfl, (blk_cell BK252.out 0).trans rfl, (blk_cell BK252.out 1).trans rfl, (blk_cell BK252.out 2).trans rfl, (blk_cell BK252.out 3).trans rfl, (blk_cell BK252.out 4).trans rfl, (blk_cell BK252.out 5).trans rfl⟩ (fun hHeld => ?_)
      clear hK K
      refine norm_ (a' := ?_) ?_ ?_
      rotate_left
      ·show Act.put _ (some 28) _ = _
       simp only [Act.put, List.setIfInBounds_toArray, List.set_cons_zero, List.set_cons_succ, i64_w, i32_w]
       rfl
      refine one_ (i := 3) (N := some 30) #[true, true, true, true, false, false] rfl rfl (by kernel_rfl) (by decide) (fun K hK => ?_)
      refine goes_ Try.func45 (by kernel_rfl) rfl #[.agg #[.int .i64 a1_0, .int .i64 a1_1, .int .i64 a1_2, .bool a1_3, .slice A1_4 l1_4.length c1_4, .slice A1_5 l1_5.length c1_5]] (by rfl) rfl rfl (by (try simp only [List.map_toArray, List.map_cons, List.map_nil]); first | done | rfl | (simp only [List.length_drop, List.length_take]; rfl)) ?_
      with_reducible refine (lsa_purge.calls a1_0 a1_1 a1_2 a1_3 _ _ l1_4 _ _ l1_5 t256 _ ?side1 ?side2 ?side3 ?side4 A20.out).mono ?_
      (case side1 => exact cs_ HR1_4 HB)
      (case side2 => exact HC1_4.out)
      (case side3 => exact cs_ HR1_5 HB)
      (case side4 => exact HC1_5.out)
      rintro e w30 ⟨rfl, hb⟩
      refine ⟨_, rfl, ?_⟩
      replace BK251 := bb_ BK251 hb
      replace BK252 := bb_ BK252 hb
      replace HB := Aside0.mk (below_step (by repeat (first | (with_reducible first | exact HB.out | apply bU | apply bS GE251.out | apply bS GE252.out) | exact HB.out)) hb)
      (try clear hb)
      refine hK.out _ _ ⟨(blk_cell BK251.out 0).trans rfl, (blk_cell BK251.out 1).trans rfl, (blk_cell BK251.out 2).trans rfl, (blk_cell BK251.out 3).trans rfl, (blk_cell BK251.out 4).trans rfl, (blk_cell BK251.out 5).trans rfl, (blk_cell BK252.out 0).trans rfl, (blk_cell BK252.out 1).trans rfl, (blk_cell BK252.out 2).trans rfl, (blk_cell BK252.out 3).trans rfl, (blk_cell BK252.out 4).trans rfl, (blk_cell BK252.out 5).trans rfl⟩ (fun hHeld => ?_)
      clear hK K
      refine norm_ (a' := ?_) ?_ ?_
      rotate_left
      ·show Act.put _ (some 30) _ = _
       simp only [Act.put, List.setIfInBounds_toArray, List.set_cons_zero, List.set_cons_succ, i64_w, i32_w]
       rfl
      refine pure_ (i := 4) (N := some 31) (v := ?_) (a' := ?_) #[true, true, true, true, true, false] rfl rfl (by kernel_rfl) (fun _ _ _ h => h) (Or.inl ⟨by rfl, ?_⟩) ?_ ?_
      rotate_left
      ·intro w'
       go_simp
       with_reducible rfl
      rotate_left
      ·simp only [Act.put, List.setIfInBounds_toArray, List.set_cons_zero, List.set_cons_succ, i64_w, i32_w]
       rfl
      refine pure_ (i := 5) (N := some 26) (v := ?_) (a' := ?_) #[true, true, true, true, true, true] rfl rfl (by kernel_rfl) (fun _ _ _ h => h) (Or.inl ⟨by rfl, ?_⟩) ?_ ?_
      rotate_left
      ·intro w'
       go_simp
       with_reducible rfl
      rotate_left
      ·simp only [Act.put, List.setIfInBounds_toArray, List.set_cons_zero, List.set_cons_succ, i64_w, i32_w]
       rfl
      refine done_ (by kernel_rfl) ?_
      try go_wp2
      replace BK251 := Aside0.mk (blk_drew BK251.out)
      replace BK252 := Aside0.mk (blk_drew BK252.out)
      replace HB := Aside0.mk (below_drew1 HB.out)
      refine start_ (n := 6) (S := fun w' => w'.cell? ⟨gb251, 0, none⟩ = some (.int .i64 a0_0) ∧ w'.cell? ⟨gb251, 1, none⟩ = some (.int .i64 a0_1) ∧ w'.cell? ⟨gb251, 2, none⟩ = some (.int .i64 a0_2) ∧ w'.cell? ⟨gb251, 3, none⟩ = some (.bool a0_3) ∧ w'.cell? ⟨gb251, 4, none⟩ = some (.slice A0_4 l0_4.length c0_4) ∧ w'.cell? ⟨gb251, 5, none⟩ = some (.slice A0_5 l0_5.length c0_5) ∧ w'.cell? ⟨gb252, 0, none⟩ = some (.int .i64 a1_0) ∧ w'.cell? ⟨gb252, 1, none⟩ = some (.int .i64 a1_1) ∧ w'.cell? ⟨gb252, 2, none⟩ = some (.int .i64 a1_2) ∧ w'.cell? ⟨gb252, 3, none⟩ = some (.bool a1_3) ∧ w'.cell? ⟨gb252, 4, none⟩ = some (.slice A1_4 l1_4.length c1_4) ∧ w'.cell? ⟨gb252, 5, none⟩ = some (.slice A1_5 l1_5.length c1_5)) (ds := []) #[false, false, false, false, false, false] (by kernel_rfl) rfl rfl ⟨(blk_cell BK251.out 0).trans rfl, (blk_cell BK251.out 1).trans rfl, (blk_cell BK251.out 2).trans rfl, (blk_cell BK251.out 3).trans rfl, (blk_cell BK251.out 4).trans rfl, (blk_cell BK251.out 5).trans rfl, (blk_cell BK252.out 0).trans rfl, (blk_cell BK252.out 1).trans rfl, (blk_cell BK252.out 2).trans rfl, (blk_cell BK252.out 3).trans rfl, (blk_cell BK252.out 4).trans rfl, (blk_cell BK252.out 5).trans rfl⟩ (fun hHeld => ?_)
      generalize w30.drew = w31 at BK251 BK252 HB hHeld ⊢
      refine take_ (i := 0) (N := some 37) (v := ?_) (a' := ?_) #[true, false, false, false, false, false] rfl rfl (by kernel_rfl) (fun _ _ _ h => h) (Or.inl ⟨by rfl, ?_⟩) hHeld ?_ ?_
      rotate_left
      ·rintro w' ⟨s0, s1, s2, s3, s4, s5, s6, s7, s8, s9, s10, s11⟩
       go_simp
       with_reducible rfl
      rotate_left
      ·simp only [Act.put, List.setIfInBounds_toArray, List.set_cons_zero, List.set_cons_succ, i64_w, i32_w]
       rfl
      refine take_ (i := 2) (N := some 39) (v := ?_) (a' := ?_) #[true, false, true, false, false, false] rfl rfl (by kernel_rfl) (fun _ _ _ h => h) (Or.inl ⟨by rfl, ?_⟩) hHeld ?_ ?_
      rotate_left
      ·rintro w' ⟨s0, s1, s2, s3, s4, s5, s6, s7, s8, s9, s10, s11⟩
       go_simp
       with_reducible rfl
      rotate_left
      ·simp only [Act.put, List.setIfInBounds_toArray, List.set_cons_zero, List.set_cons_succ, i64_w, i32_w]
       rfl
      refine one_ (i := 1) (N := some 38) #[true, true, true, false, false, false] rfl rfl (by kernel_rfl) (by decide) (fun K hK => ?_)
      refine goes_ Try.func47 (by kernel_rfl) rfl #[.agg #[.int .i64 a0_0, .int .i64 a0_1, .int .i64 a0_2, .bool a0_3, .slice A0_4 l0_4.length c0_4, .slice A0_5 l0_5.length c0_5]] (by rfl) rfl rfl (by (try simp only [List.map_toArray, List.map_cons, List.map_nil]); first | done | rfl | (simp only [List.length_drop, List.length_take]; rfl)) ?_
      with_reducible refine (lsa_young.calls kj2 a0_0 a0_1 a0_2 a0_3 _ _ l0_4 _ _ l0_5 t260 _ ?side1 ?side2 ?side3 ?side4 A22.out).mono ?_
      (case side1 => exact cs_ HR0_4 HB)
      (case side2 => exact HC0_4.out)
      (case side3 => exact cs_ HR0_5 HB)
      (case side4 => exact HC0_5.out)
      rintro e w32 ⟨v261, rfl, ho0, hb⟩
      refine ⟨_, rfl, ?_⟩
      have HO262 := Aside0.mk (Kd.R_lower ho0 (below_size (by repeat (first | (with_reducible first | exact HB.out | apply bU | apply bS GE251.out | apply bS GE252.out) | exact HB.out))))
      replace BK251 := bb_ BK251 hb
      replace BK252 := bb_ BK252 hb
      replace HB := Aside0.mk (below_step (by repeat (first | (with_reducible first | exact HB.out | apply bU | apply bS GE251.out | apply bS GE252.out) | exact HB.out)) hb)
      (try clear hb)
      (try clear ho0)
      refine hK.out _ _ ⟨(blk_cell BK251.out 0).trans rfl, (blk_cell BK251.out 1).trans rfl, (blk_cell BK251.out 2).trans rfl, (blk_cell BK251.out 3).trans rfl, (blk_cell BK251.out 4).trans rfl, (blk_cell BK251.out 5).trans rfl, (blk_cell BK252.out 0).trans rfl, (blk_cell BK252.out 1).trans rfl, (blk_cell BK252.out 2).trans rfl, (blk_cell BK252.out 3).trans rfl, (blk_cell BK252.out 4).trans rfl, (blk_cell BK252.out 5).trans rfl⟩ (fun hHeld => ?_)
      clear hK K
      refine norm_ (a' := ?_) ?_ ?_
      rotate_left
      ·show Act.put _ (some 38) _ = _
       simp only [Act.put, List.setIfInBounds_toArray, List.set_cons_zero, List.set_cons_succ, i64_w, i32_w]
       rfl
      refine one_ (i := 3) (N := some 40) #[true, true, true, true, false, false] rfl rfl (by kernel_rfl) (by decide) (fun K hK => ?_)
      refine goes_ Try.func47 (by kernel_rfl) rfl #[.agg #[.int .i64 a1_0, .int .i64 a1_1, .int .i64 a1_2, .bool a1_3, .slice A1_4 l1_4.length c1_4, .slice A1_5 l1_5.length c1_5]] (by rfl) rfl rfl (by (try simp only [List.map_toArray, List.map_cons, List.map_nil]); first | done | rfl | (simp only [List.length_drop, List.length_take]; rfl)) ?_
      with_reducible refine (lsa_young.calls kj2 a1_0 a1_1 a1_2 a1_3 _ _ l1_4 _ _ l1_5 t263 _ ?side1 ?side2 ?side3 ?side4 A23.out).mono ?_
      (case side1 => exact cs_ HR1_4 HB)
      (case side2 => exact HC1_4.out)
      (case side3 => exact cs_ HR1_5 HB)
      (case side4 => exact HC1_5.out)
      rintro e w33 ⟨v264, rfl, ho0, hb⟩
      refine ⟨_, rfl, ?_⟩
      have HO265 := Aside0.mk (Kd.R_lower (Kd.R_new' ho0 (Kd.R_lt (by (with_reducible repeat (first | apply Kd.R_alloc | apply Kd.R_drewN | apply Kd.R_drew)); exact HO262.out))) (below_size (by repeat (first | (with_reducible first | exact HB.out | apply bU | apply bS GE251.out | apply bS GE252.out) | exact HB.out))))
      replace HO262 := Aside0.mk (Kd.R_elder' (by (with_reducible repeat (first | apply Kd.R_alloc | apply Kd.R_drewN | apply Kd.R_drew)); exact HO262.out) (Kd.R_base ho0) hb)
      replace BK251 := bb_ BK251 hb
      replace BK252 := bb_ BK252 hb
      replace HB := Aside0.mk (below_step (by repeat (first | (with_reducible first | exact HB.out | apply bU | apply bS GE251.out | apply bS GE252.out) | exact HB.out)) hb)
      (try clear hb)
      (try clear ho0)
      obtain ⟨Ao34, co34, eo34⟩ := Kd.R_slice HO262.out
      (first | subst eo34 | (injection eo34 with f1_ f2_ f3_; have f4_ := f1_.symm; have f5_ := f3_.symm; clear f1_ f2_ f3_; subst f4_; subst f5_))
      obtain ⟨Ao35, co35, eo35⟩ := Kd.R_slice HO265.out
      (first | subst eo35 | (injection eo35 with f1_ f2_ f3_; have f4_ := f1_.symm; have f5_ := f3_.symm; clear f1_ f2_ f3_; subst f4_; subst f5_))
      refine hK.out _ _ ⟨(blk_cell BK251.out 0).trans rfl, (blk_cell BK251.out 1).trans rfl, (blk_cell BK251.out 2).trans rfl, (blk_cell BK251.out 3).trans rfl, (blk_cell BK251.out 4).trans rfl, (blk_cell BK251.out 5).trans rfl, (blk_cell BK252.out 0).trans rfl, (blk_cell BK252.out 1).trans rfl, (blk_cell BK252.out 2).trans rfl, (blk_cell BK252.out 3).trans rfl, (blk_cell BK252.out 4).trans rfl, (blk_cell BK252.out 5).trans rfl⟩ (fun hHeld => ?_)
      clear hK K
      refine norm_ (a' := ?_) ?_ ?_
      rotate_left
      ·show Act.put _ (some 40) _ = _
       simp only [Act.put, List.setIfInBounds_toArray, List.set_cons_zero, List.set_cons_succ, i64_w, i32_w]
       rfl
      refine one_ (i := 4) (N := some 41) #[true, true, true, true, true, false] rfl rfl (by kernel_rfl) (by decide) (fun K hK => ?_)
      refine goes_ Try.func46 (by kernel_rfl) rfl #[.slice Ao34 t260.length co34, .slice Ao35 t263.length co35] (by rfl) rfl rfl (by (try simp only [List.map_toArray, List.map_cons, List.map_nil]); first | done | rfl | (simp only [List.length_drop, List.length_take]; rfl)) ?_
      with_reducible refine (bytes_Compare.calls _ _ t260 _ _ t263 t266 _ ?side1 ?side2 ?side3 ?side4 A24.out).mono ?_
      (case side1 => repeat (first | exact (Kd.R_reads' HO262.out).2.2 | (with_reducible refine Kd.C_alloc ?_ _) | (with_reducible refine Kd.C_drewN ?_ _) | (with_reducible refine Kd.C_drew ?_)))
      (case side2 => exact (Kd.R_reads' HO262.out).2.1)
      (case side3 => repeat (first | exact (Kd.R_reads' HO265.out).2.2 | (with_reducible refine Kd.C_alloc ?_ _) | (with_reducible refine Kd.C_drewN ?_ _) | (with_reducible refine Kd.C_drew ?_)))
      (case side4 => exact (Kd.R_reads' HO265.out).2.1)
      rintro e w36 ⟨rfl, hb⟩
      refine ⟨_, rfl, ?_⟩
      replace HO262 := Aside0.mk (Kd.R_below (by (with_reducible repeat (first | apply Kd.R_alloc | apply Kd.R_drewN | apply Kd.R_drew)); exact HO262.out) hb)
      replace HO265 := Aside0.mk (Kd.R_below (by (with_reducible repeat (first | apply Kd.R_alloc | apply Kd.R_drewN | apply Kd.R_drew)); exact HO265.out) hb)
      replace BK251 := bb_ BK251 hb
      replace BK252 := bb_ BK252 hb
      replace HB := Aside0.mk (below_step (by repeat (first | (with_reducible first | exact HB.out | apply bU | apply bS GE251.out | apply bS GE252.out) | exact HB.out)) hb)
      (try clear hb)
      refine hK.out _ _ ⟨(blk_cell BK251.out 0).trans rfl, (blk_cell BK251.out 1).trans rfl, (blk_cell BK251.out 2).trans rfl, (blk_cell BK251.out 3).trans rfl, (blk_cell BK251.out 4).trans rfl, (blk_cell BK251.out 5).trans rfl, (blk_cell BK252.out 0).trans rfl, (blk_cell BK252.out 1).trans rfl, (blk_cell BK252.out 2).trans rfl, (blk_cell BK252.out 3).trans rfl, (blk_cell BK252.out 4).trans rfl, (blk_cell BK252.out 5).trans rfl⟩ (fun hHeld => ?_)
      clear hK K
      refine norm_ (a' := ?_) ?_ ?_
      rotate_left
      ·show Act.put _ (some 41) _ = _
       simp only [Act.put, List.setIfInBounds_toArray, List.set_cons_zero, List.set_cons_succ, i64_w, i32_w]
       rfl
      refine pure_ (i := 5) (N := some 4) (v := ?_) (a' := ?_) #[true, true, true, true, true, true] rfl rfl (by kernel_rfl) (fun _ _ _ h => h) (Or.inl ⟨by rfl, ?_⟩) ?_ ?_
      rotate_left
      ·intro w'
       go_simp
       with_reducible rfl
      rotate_left
      ·simp only [Act.put, List.setIfInBounds_toArray, List.set_cons_zero, List.set_cons_succ, i64_w, i32_w]
       rfl
      refine done_ (by kernel_rfl) ?_
      try go_wp2
      go_ret
      exact ⟨by first | rfl | (simp [errW_none, errW_some] <;> rfl) | (simp [*, errW_none, errW_some] <;> rfl), by repeat (first | (with_reducible first | exact HB.out | apply bU | apply bS GE251.out | apply bS GE252.out) | exact HB.out)⟩
     ·rw [if_neg c21] at H
      have c21b0 : (t255 == t256) = false := beq_eq_false_iff_ne.mpr c21
      have c21b1 : (t255 != t256) = true := bne_iff_ne.mpr c21
      replace H := Option.bind_eq_some_iff.mp H
      obtain ⟨t257, A370, H⟩ := H
      replace H : ((lsa_purge.f a1_0 a1_1 a1_2 a1_3 l1_4 l1_5).bind fun t258 => (some (wrap64 (t257 - t258)))) = some r := H
      have A37 := Aside0.mk A370
      clear A370
      replace H := Option.bind_eq_some_iff.mp H
      obtain ⟨t258, A380, H⟩ := H
      replace H : (some (wrap64 (t257 - t258))) = some r := H
      have A38 := Aside0.mk A380
      clear A380
      obtain rfl := Option.some.inj H
      have hnb39 := NB251_252.out
      have hnc39 := NB252_251.out
      obtain ⟨hcz40_0, hcz40_1, hcz40_2, hcz40_3, hcz40_4, hcz40_5, hfz40_0, hfz40_1, hfz40_2, hfz40_3, hfz40_4, hfz40_5⟩ := c6_ BK251
      obtain ⟨hcz41_0, hcz41_1, hcz41_2, hcz41_3, hcz41_4, hcz41_5, hfz41_0, hfz41_1, hfz41_2, hfz41_3, hfz41_4, hfz41_5⟩ := c6_ BK252
      try go_wp2
      replace BK251 := Aside0.mk (blk_drew BK251.out)
      replace BK252 := Aside0.mk (blk_drew BK252.out)
      replace HB := Aside0.mk (below_drew1 HB.out)
      refine start_ (n := 6) (S := fun w' => w'.cell? ⟨gb251, 0, none⟩ = some (.int .i64 a0_0) ∧ w'.cell? ⟨gb251, 1, none⟩ = some (.int .i64 a0_1) ∧ w'.cell? ⟨gb251, 2, none⟩ = some (.int .i64 a0_2) ∧ w'.cell? ⟨gb251, 3, none⟩ = some (.bool a0_3) ∧ w'.cell? ⟨gb251, 4, none⟩ = some (.slice A0_4 l0_4.length c0_4) ∧ w'.cell? ⟨gb251, 5, none⟩ = some (.slice A0_5 l0_5.length c0_5) ∧ w'.cell? ⟨gb252, 0, none⟩ = some (.int .i64 a1_0) ∧ w'.cell? ⟨gb252, 1, none⟩ = some (.int .i64 a1_1) ∧ w'.cell? ⟨gb252, 2, none⟩ = some (.int .i64 a1_2) ∧ w'.cell? ⟨gb252, 3, none⟩ = some (.bool a1_3) ∧ w'.cell? ⟨gb252, 4, none⟩ = some (.slice A1_4 l1_4.length c1_4) ∧ w'.cell? ⟨gb252, 5, none⟩ = some (.slice A1_5 l1_5.length c1_5)) (ds := []) #[false, false, false, false, false, false] (by kernel_rfl) rfl rfl ⟨(blk_cell BK251.out 0).trans rfl, (blk_cell BK251.out 1).trans rfl, (blk_cell BK251.out 2).trans rfl, (blk_cell BK251.out 3).trans rfl, (blk_cell BK251.out 4).trans rfl, (blk_cell BK251.out 5).trans rfl, (blk_cell BK252.out 0).trans rfl, (blk_cell BK252.out 1).trans rfl, (blk_cell BK252.out 2).trans rfl, (blk_cell BK252.out 3).trans rfl, (blk_cell BK252.out 4).trans rfl, (blk_cell BK252.out 5).trans rfl⟩ (fun hHeld => ?_)
      generalize wc.drew = w42 at BK251 BK252 HB hHeld ⊢
      refine take_ (i := 0) (N := some 27) (v := ?_) (a' := ?_) #[true, false, false, false, false, false] rfl rfl (by kernel_rfl) (fun _ _ _ h => h) (Or.inl ⟨by rfl, ?_⟩) hHeld ?_ ?_
      rotate_left
      ·rintro w' ⟨s0, s1, s2, s3, s4, s5, s6, s7, s8, s9, s10, s11⟩
       go_simp
       with_reducible rfl
      rotate_left
      ·simp only [Act.put, List.setIfInBounds_toArray, List.set_cons_zero, List.set_cons_succ, i64_w, i32_w]
       rfl
      refine take_ (i := 2) (N := some 29) (v := ?_) (a' := ?_) #[true, false, true, false, false, false] rfl rfl (by kernel_rfl) (fun _ _ _ h => h) (Or.inl ⟨by rfl, ?_⟩) hHeld ?_ ?_
      rotate_left
      ·rintro w' ⟨s0, s1, s2, s3, s4, s5, s6, s7, s8, s9, s10, s11⟩
       go_simp
       with_reducible rfl
      rotate_left
      ·simp only [Act.put, List.setIfInBounds_toArray, List.set_cons_zero, List.set_cons_succ, i64_w, i32_w]
       rfl
      refine one_ (i := 1) (N := some 28) #[true, true, true, false, false, false] rfl rfl (by kernel_rfl) (by decide) (fun K hK => ?_)
      refine goes_ Try.func45 (by kernel_rfl) rfl #[.agg #[.int .i64 a0_0, .int .i64 a0_1, .int .i64 a0_2, .bool a0_3, .slice A0_4 l0_4.length c0_4, .slice A0_5 l0_5.length c0_5]] (by rfl) rfl rfl (by (try simp only [List.map_toArray, List.map_cons, List.map_nil]); first | done | rfl | (simp only [List.length_drop, List.length_take]; rfl)) ?_
      with_reducible refine (lsa_purge.calls a0_0 a0_1 a0_2 a0_3 _ _ l0_4 _ _ l0_5 t255 _ ?side1 ?side2 ?side3 ?side4 A19.out).mono ?_
      (case side1 => exact cs_ HR0_4 HB)
      (case side2 => exact HC0_4.out)
      (case side3 => exact cs_ HR0_5 HB)
      (case side4 => exact HC0_5.out)
      rintro e w43 ⟨rfl, hb⟩
      refine ⟨_, rfl, ?_⟩
      replace BK251 := bb_ BK251 hb
      replace BK252 := bb_ BK252 hb
      replace HB := Aside0.mk (below_step (by repeat (first | (with_reducible first | exact HB.out | apply bU | apply bS GE251.out | apply bS GE252.out) | exact HB.out)) hb)
      (try clear hb)
      refine hK.out _ _ ⟨(blk_cell BK251.out 0).trans rfl, (blk_cell BK251.out 1).trans rfl, (blk_cell BK251.out 2).trans rfl, (blk_cell BK251.out 3).trans rfl, (blk_cell BK251.out 4).trans rfl, (blk_cell BK251.out 5).trans rfl, (blk_cell BK252.out 0).trans rfl, (blk_cell BK252.out 1).trans rfl, (blk_cell BK252.out 2).trans rfl, (blk_cell BK252.out 3).trans rfl, (blk_cell BK252.out 4).trans rfl, (blk_cell BK252.out 5).trans rfl⟩ (fun hHeld => ?_)
      clear hK K
      refine norm_ (a' := ?_) ?_ ?_
      rotate_left
      ·show Act.put _ (some 28) _ = _
       simp only [Act.put, List.setIfInBounds_toArray, List.set_cons_zero, List.set_cons_succ, i64_w, i32_w]
       rfl
      refine one_ (i := 3) (N := some 30) #[true, true, true, true, false, false] rfl rfl (by kernel_rfl) (by decide) (fun K hK => ?_)
      refine goes_ Try.func45 (by kernel_rfl) rfl #[.agg #[.int .i64 a1_0, .int .i64 a1_1, .int .i64 a1_2, .bool a1_3, .slice A1_4 l1_4.length c1_4, .slice A1_5 l1_5.length c1_5]] (by rfl) rfl rfl (by (try simp only [List.map_toArray, List.map_cons, List.map_nil]); first | done | rfl | (simp only [List.length_drop, List.length_take]; rfl)) ?_
      with_reducible refine (lsa_purge.calls a1_0 a1_1 a1_2 a1_3 _ _ l1_4 _ _ l1_5 t256 _ ?side1 ?side2 ?side3 ?side4 A20.out).mono ?_
      (case side1 => exact cs_ HR1_4 HB)
      (case side2 => exact HC1_4.out)
      (case side3 => exact cs_ HR1_5 HB)
      (case side4 => exact HC1_5.out)
      rintro e w44 ⟨rfl, hb⟩
      refine ⟨_, rfl, ?_⟩
      replace BK251 := bb_ BK251 hb
      replace BK252 := bb_ BK252 hb
      replace HB := Aside0.mk (below_step (by repeat (first | (with_reducible first | exact HB.out | apply bU | apply bS GE251.out | apply bS GE252.out) | exact HB.out)) hb)
      (try clear hb)
      refine hK.out _ _ ⟨(blk_cell BK251.out 0).trans rfl, (blk_cell BK251.out 1).trans rfl, (blk_cell BK251.out 2).trans rfl, (blk_cell BK251.out 3).trans rfl, (blk_cell BK251.out 4).trans rfl, (blk_cell BK251.out 5).trans rfl, (blk_cell BK252.out 0).trans rfl, (blk_cell BK252.out 1).trans rfl, (blk_cell BK252.out 2).trans rfl, (blk_cell BK252.out 3).trans rfl, (blk_cell BK252.out 4).trans rfl, (blk_cell BK252.out 5).trans rfl⟩ (fun hHeld => ?_)
      clear hK K
      refine norm_ (a' := ?_) ?_ ?_
      rotate_left
      ·show Act.put _ (some 30) _ = _
       simp only [Act.put, List.setIfInBounds_toArray, List.set_cons_zero, List.set_cons_succ, i64_w, i32_w]
       rfl
      refine pure_ (i := 4) (N := some 31) (v := ?_) (a' := ?_) #[true, true, true, true, true, false] rfl rfl (by kernel_rfl) (fun _ _ _ h => h) (Or.inl ⟨by rfl, ?_⟩) ?_ ?_
      rotate_left
      ·intro w'
       go_simp
       with_reducible rfl
      rotate_left
      ·simp only [Act.put, List.setIfInBounds_toArray, List.set_cons_zero, List.set_cons_succ, i64_w, i32_w]
       rfl
      refine pure_ (i := 5) (N := some 26) (v := ?_) (a' := ?_) #[true, true, true, true, true, true] rfl rfl (by kernel_rfl) (fun _ _ _ h => h) (Or.inl ⟨by rfl, ?_⟩) ?_ ?_
      rotate_left
      ·intro w'
       go_simp
       with_reducible rfl
      rotate_left
      ·simp only [Act.put, List.setIfInBounds_toArray, List.set_cons_zero, List.set_cons_succ, i64_w, i32_w]
       rfl
      refine done_ (by kernel_rfl) ?_
      try go_wp2
      replace BK251 := Aside0.mk (blk_drew BK251.out)
      replace BK252 := Aside0.mk (blk_drew BK252.out)
      replace HB := Aside0.mk (below_drew1 HB.out)
      refine start_ (n := 6) (S := fun w' => w'.cell? ⟨gb251, 0, none⟩ = some (.int .i64 a0_0) ∧ w'.cell? ⟨gb251, 1, none⟩ = some (.int .i64 a0_1) ∧ w'.cell? ⟨gb251, 2, none⟩ = some (.int .i64 a0_2) ∧ w'.cell? ⟨gb251, 3, none⟩ = some (.bool a0_3) ∧ w'.cell? ⟨gb251, 4, none⟩ = some (.slice A0_4 l0_4.length c0_4) ∧ w'.cell? ⟨gb251, 5, none⟩ = some (.slice A0_5 l0_5.length c0_5) ∧ w'.cell? ⟨gb252, 0, none⟩ = some (.int .i64 a1_0) ∧ w'.cell? ⟨gb252, 1, none⟩ = some (.int .i64 a1_1) ∧ w'.cell? ⟨gb252, 2, none⟩ = some (.int .i64 a1_2) ∧ w'.cell? ⟨gb252, 3, none⟩ = some (.bool a1_3) ∧ w'.cell? ⟨gb252, 4, none⟩ = some (.slice A1_4 l1_4.length c1_4) ∧ w'.cell? ⟨gb252, 5, none⟩ = some (.slice A1_5 l1_5.length c1_5)) (ds := []) #[false, false, false, false, false, false] (by kernel_rfl) rfl rfl ⟨(blk_cell BK251.out 0).trans rfl, (blk_cell BK251.out 1).trans rfl, (blk_cell BK251.out 2).trans rfl, (blk_cell BK251.out 3).trans rfl, (blk_cell BK251.out 4).trans rfl, (blk_cell BK251.out 5).trans rfl, (blk_cell BK252.out 0).trans rfl, (blk_cell BK252.out 1).trans rfl, (blk_cell BK252.out 2).trans rfl, (blk_cell BK252.out 3).trans rfl, (blk_cell BK252.out 4).trans rfl, (blk_cell BK252.out 5).trans rfl⟩ (fun hHeld => ?_)
      generalize w44.drew = w45 at BK251 BK252 HB hHeld ⊢
      refine take_ (i := 0) (N := some 32) (v := ?_) (a' := ?_) #[true, false, false, false, false, false] rfl rfl (by kernel_rfl) (fun _ _ _ h => h) (Or.inl ⟨by rfl, ?_⟩) hHeld ?_ ?_
      rotate_left
      ·rintro w' ⟨s0, s1, s2, s3, s4, s5, s6, s7, s8, s9, s10, s11⟩
       go_simp
       with_reducible rfl
      rotate_left
      ·simp only [Act.put, List.setIfInBounds_toArray, List.set_cons_zero, List.set_cons_succ, i64_w, i32_w]
       rfl
      refine take_ (i := 2) (N := some 34) (v := ?_) (a' := ?_) #[true, false, true, false, false, false] rfl rfl (by kernel_rfl) (fun _ _ _ h => h) (Or.inl ⟨by rfl, ?_⟩) hHeld ?_ ?_
      rotate_left
      ·rintro w' ⟨s0, s1, s2, s3, s4, s5, s6, s7, s8, s9, s10, s11⟩
       go_simp
       with_reducible rfl
      rotate_left
      ·simp only [Act.put, List.setIfInBounds_toArray, List.set_cons_zero, List.set_cons_succ, i64_w, i32_w]
       rfl
      refine one_ (i := 1) (N := some 33) #[true, true, true, false, false, false] rfl rfl (by kernel_rfl) (by decide) (fun K hK => ?_)
      refine goes_ Try.func45 (by kernel_rfl) rfl #[.agg #[.int .i64 a0_0, .int .i64 a0_1, .int .i64 a0_2, .bool a0_3, .slice A0_4 l0_4.length c0_4, .slice A0_5 l0_5.length c0_5]] (by rfl) rfl rfl (by (try simp only [List.map_toArray, List.map_cons, List.map_nil]); first | done | rfl | (simp only [List.length_drop, List.length_take]; rfl)) ?_
      with_reducible refine (lsa_purge.calls a0_0 a0_1 a0_2 a0_3 _ _ l0_4 _ _ l0_5 t257 _ ?side1 ?side2 ?side3 ?side4 A37.out).mono ?_
      (case side1 => exact cs_ HR0_4 HB)
      (case side2 => exact HC0_4.out)
      (case side3 => exact cs_ HR0_5 HB)
      (case side4 => exact HC0_5.out)
      rintro e w46 ⟨rfl, hb⟩
      refine ⟨_, rfl, ?_⟩
      replace BK251 := bb_ BK251 hb
      replace BK252 := bb_ BK252 hb
      replace HB := Aside0.mk (below_step (by repeat (first | (with_reducible first | exact HB.out | apply bU | apply bS GE251.out | apply bS GE252.out) | exact HB.out)) hb)
      (try clear hb)
      refine hK.out _ _ ⟨(blk_cell BK251.out 0).trans rfl, (blk_cell BK251.out 1).trans rfl, (blk_cell BK251.out 2).trans rfl, (blk_cell BK251.out 3).trans rfl, (blk_cell BK251.out 4).trans rfl, (blk_cell BK251.out 5).trans rfl, (blk_cell BK252.out 0).trans rfl, (blk_cell BK252.out 1).trans rfl, (blk_cell BK252.out 2).trans rfl, (blk_cell BK252.out 3).trans rfl, (blk_cell BK252.out 4).trans rfl, (blk_cell BK252.out 5).trans rfl⟩ (fun hHeld => ?_)
      clear hK K
      refine norm_ (a' := ?_) ?_ ?_
      rotate_left
      ·show Act.put _ (some 33) _ = _
       simp only [Act.put, List.setIfInBounds_toArray, List.set_cons_zero, List.set_cons_succ, i64_w, i32_w]
       rfl
      refine one_ (i := 3) (N := some 35) #[true, true, true, true, false, false] rfl rfl (by kernel_rfl) (by decide) (fun K hK => ?_)
      refine goes_ Try.func45 (by kernel_rfl) rfl #[.agg #[.int .i64 a1_0, .int .i64 a1_1, .int .i64 a1_2, .bool a1_3, .slice A1_4 l1_4.length c1_4, .slice A1_5 l1_5.length c1_5]] (by rfl) rfl rfl (by (try simp only [List.map_toArray, List.map_cons, List.map_nil]); first | done | rfl | (simp only [List.length_drop, List.length_take]; rfl)) ?_
      with_reducible refine (lsa_purge.calls a1_0 a1_1 a1_2 a1_3 _ _ l1_4 _ _ l1_5 t258 _ ?side1 ?side2 ?side3 ?side4 A38.out).mono ?_
      (case side1 => exact cs_ HR1_4 HB)
      (case side2 => exact HC1_4.out)
      (case side3 => exact cs_ HR1_5 HB)
      (case side4 => exact HC1_5.out)
      rintro e w47 ⟨rfl, hb⟩
      refine ⟨_, rfl, ?_⟩
      replace BK251 := bb_ BK251 hb
      replace BK252 := bb_ BK252 hb
      replace HB := Aside0.mk (below_step (by repeat (first | (with_reducible first | exact HB.out | apply bU | apply bS GE251.out | apply bS GE252.out) | exact HB.out)) hb)
      (try clear hb)
      refine hK.out _ _ ⟨(blk_cell BK251.out 0).trans rfl, (blk_cell BK251.out 1).trans rfl, (blk_cell BK251.out 2).trans rfl, (blk_cell BK251.out 3).trans rfl, (blk_cell BK251.out 4).trans rfl, (blk_cell BK251.out 5).trans rfl, (blk_cell BK252.out 0).trans rfl, (blk_cell BK252.out 1).trans rfl, (blk_cell BK252.out 2).trans rfl, (blk_cell BK252.out 3).trans rfl, (blk_cell BK252.out 4).trans rfl, (blk_cell BK252.out 5).trans rfl⟩ (fun hHeld => ?_)
      clear hK K
      refine norm_ (a' := ?_) ?_ ?_
      rotate_left
      ·show Act.put _ (some 35) _ = _
       simp only [Act.put, List.setIfInBounds_toArray, List.set_cons_zero, List.set_cons_succ, i64_w, i32_w]
       rfl
      refine pure_ (i := 4) (N := some 36) (v := ?_) (a' := ?_) #[true, true, true, true, true, false] rfl rfl (by kernel_rfl) (fun _ _ _ h => h) (Or.inl ⟨by rfl, ?_⟩) ?_ ?_
      rotate_left
      ·intro w'
       go_simp
       with_reducible rfl
      rotate_left
      ·simp only [Act.put, List.setIfInBounds_toArray, List.set_cons_zero, List.set_cons_succ, i64_w, i32_w]
       rfl
      refine pure_ (i := 5) (N := some 4) (v := ?_) (a' := ?_) #[true, true, true, true, true, true] rfl rfl (by kernel_rfl) (fun _ _ _ h => h) (Or.inl ⟨by rfl, ?_⟩) ?_ ?_
      rotate_left
      ·intro w'
       go_simp
       with_reducible rfl
      rotate_left
      ·simp only [Act.put, List.setIfInBounds_toArray, List.set_cons_zero, List.set_cons_succ, i64_w, i32_w]
       rfl
      refine done_ (by kernel_rfl) ?_
      try go_wp2
      go_ret
      exact ⟨by first | rfl | (simp [errW_none, errW_some] <;> rfl) | (simp [*, errW_none, errW_some] <;> rfl), by repeat (first | (with_reducible first | exact HB.out | apply bU | apply bS GE251.out | apply bS GE252.out) | exact HB.out)⟩
    ·rw [if_neg c18] at H
     have c18b0 : (a0_1 == a1_1) = false := beq_eq_false_iff_ne.mpr c18
     have c18b1 : (a0_1 != a1_1) = true := bne_iff_ne.mpr c18
     replace H := Option.bind_eq_some_iff.mp H
     obtain ⟨t259, A480, H⟩ := H
     replace H : (some t259) = some r := H
     have A48 := Aside0.mk A480
     clear A480
     obtain rfl := Option.some.inj H
     have hnb49 := NB251_252.out
     have hnc49 := NB252_251.out
     obtain ⟨hcz50_0, hcz50_1, hcz50_2, hcz50_3, hcz50_4, hcz50_5, hfz50_0, hfz50_1, hfz50_2, hfz50_3, hfz50_4, hfz50_5⟩ := c6_ BK251
     obtain ⟨hcz51_0, hcz51_1, hcz51_2, hcz51_3, hcz51_4, hcz51_5, hfz51_0, hfz51_1, hfz51_2, hfz51_3, hfz51_4, hfz51_5⟩ := c6_ BK252
     go_wp2_with (first | ((with_reducible refine gate_callee (f := 44) rfl ?_); refine goesL_ (some 25) rfl rfl Try.func44 (by kernel_rfl) rfl #[.int .i64 (wrap64 (a0_1 - a1_1))] rfl (by (try simp only [List.map_toArray, List.map_cons, List.map_nil]); first | done | rfl | (simp only [List.length_drop, List.length_take]; rfl)) ?_; (with_reducible refine (lsa_sign.calls (wrap64 (a0_1 - a1_1)) t259 _ A48.out).mono ?_); rintro e w52 ⟨rfl, hb⟩; refine ⟨_, rfl, ?_⟩; replace BK251 := bb_ BK251 hb; replace BK252 := bb_ BK252 hb; replace HB := Aside0.mk (below_step (by repeat (first | (with_reducible first | exact HB.out | apply bU | apply bS GE251.out | apply bS GE252.out) | exact HB.out)) hb); (try clear hb); (try clear hb2); (try clear hk); (try clear hi)))
     go_ret
     exact ⟨by first | rfl | (simp [errW_none, errW_some] <;> rfl) | (simp [*, errW_none, errW_some] <;> rfl), by repeat (first | (with_reducible first | exact HB.out | apply bU | apply bS GE251.out | apply bS GE252.out) | exact HB.out)⟩

/-! ### waypointlaw32_awake: function 10 -/
abbrev AwT := S43
def aw.B : List Int := [1, 0, 9, 0, 3, 0, 0, 0, 5, 0, 0, 0, 2, 0, 6, 0, 1, 0, 7, 0, 10, 4, 0, 2, 165, 40]
def aw.A : List AwT := [⟨1, 7, 10⟩]
theorem aw.enc : lsa_Encode.f 60 3 5 0 false aw.A [] = some (aw.B, 0) := by kernel_rfl
theorem aw.dec : lsa_Decode.f 60 aw.B = some (3, 5, 0, false, aw.A, [], 0) := by kernel_rfl
theorem aw.pur : lsa_Purge.f 60 3 5 0 false aw.A [] = some (3, 5, 3600, false, [], [], 0) := by kernel_rfl
theorem aw.eq : waypointref32_Equal.f 60 3 5 0 false aw.A [] 3 5 0 false aw.A [] = some true := by kernel_rfl
theorem aw.n1 : lsa_Newer.f 60 3 6 0 false aw.A [] 3 5 0 false aw.A [] = some 1 := by kernel_rfl
theorem aw.n2 : lsa_Newer.f 60 3 5 3600 false [] [] 3 5 0 false aw.A [] = some 1 := by kernel_rfl
theorem aw.n3 : lsa_Newer.f 60 3 6 0 false aw.A [] 3 5 3600 false [] [] = some 1 := by kernel_rfl
theorem C_one (W : World) (x y z : Int) : Kd.C k43 (W.alloc (.cells #[.int .i64 x, .int .i64 y, .int .i64 z] 43)) (some ⟨W.heap.size, 0, none⟩) 1 [⟨x, y, z⟩] := by
 refine ⟨rfl, by decide, fun _ => ⟨_, rfl, fun j p hj => ?_⟩⟩
 match j, hj with
 | 0, hj =>
  obtain rfl : (⟨x, y, z⟩ : AwT) = p := Option.some.inj hj
  refine ⟨[.int .i64 x, .int .i64 y, .int .i64 z], rfl, k43.K_of_M (base := 0) (ok := fun _ => True) (k43_mkM _ 0 (fun _ => True) ⟨x, y, z⟩), fun i u hi => ?_⟩
  have hb : (W.alloc (.cells #[.int .i64 x, .int .i64 y, .int .i64 z] 43)).heap[W.heap.size]? = some (.cells #[.int .i64 x, .int .i64 y, .int .i64 z] 43 (0, 0)) := World.alloc_heap_new _ _
  match i, hi with
  | 0, hi => obtain rfl := Option.some.inj hi; exact (blk_cell hb 0).trans rfl
  | 1, hi => obtain rfl := Option.some.inj hi; exact (blk_cell hb 1).trans rfl
  | 2, hi => obtain rfl := Option.some.inj hi; exact (blk_cell hb 2).trans rfl
set_option maxHeartbeats 8000000 in
set_option maxRecDepth 100000 in
theorem waypointlaw32_awake.calls' (w : World) :
  Calls Try.prog 10 #[] w fun e w' => e = .returned (.bool true) ∧ Below w.heap.size w w' := by
 have hu := Try.underlying25
 go_enter Try.func10, Try.ntmps10
 go_wp2_with fail
 refine (lsa_Encode.calls 60 3 5 0 false (some ⟨w.heap.size, 0, none⟩) 1 aw.A none 0 [] aw.B 0 _ (Kd.C_alloc (C_one w 1 7 10) _) (by decide) (Kd.C_nil _ _) (Nat.le_refl _) aw.enc).mono ?_
 rintro e w2 ⟨v2, rfl, hR, hb⟩
 obtain ⟨A2, c2, rfl⟩ := Kd.R_slice hR
 have B1 := Aside0.mk (blk_below (hnew (w.alloc (.cells #[.int .i64 1, .int .i64 7, .int .i64 10] 43)) (.cells #[.int .i64 3, .int .i64 5, .int .i64 0, .bool false, .slice (some ⟨w.heap.size, 0, none⟩) 1 1, .slice none 0 0] 25 (0, 0)) (w.heap.size + 1) (by simp)) hb)
 have CA := Aside0.mk (Kd.C_below (Kd.C_alloc (C_one w 1 7 10) (.cells #[.int .i64 3, .int .i64 5, .int .i64 0, .bool false, .slice (some ⟨w.heap.size, 0, none⟩) 1 1, .slice none 0 0] 25 (0, 0))) hb)
 have HB := Aside0.mk (below_step (below_alloc (below_alloc (Below.refl w.heap.size w) (.cells #[.int .i64 1, .int .i64 7, .int .i64 10] 43)) (.cells #[.int .i64 3, .int .i64 5, .int .i64 0, .bool false, .slice (some ⟨w.heap.size, 0, none⟩) 1 1, .slice none 0 0] 25 (0, 0))) hb)
 have CB := Aside0.mk (Kd.R_reads' hR).2
 have hc26 : 26 ≤ c2 := (Kd.R_reads' hR).2.1
 obtain ⟨i05, hi5, _, hsz5, _⟩ := info_parts info5
 have hcut : ∀ W : World, (Instr.slice 28 (.slice A2 aw.B.length c2) none (some (.int .i64 24)) none).run Try.prog W = .ok (.slice A2 24 c2) W := cut_to (P := Try.prog) 28 5 .i64 Try.underlying28 hi5 A2 26 c2 24 (by decide) (by decide) hc26
 have hst : strOfNums (aw.B.take 24) = ⟨#[1, 0, 9, 0, 3, 0, 0, 0, 5, 0, 0, 0, 2, 0, 6, 0, 1, 0, 7, 0, 10, 4, 0, 2]⟩ := by kernel_rfl
 have hcv : (convert 28 9 (.slice A2 24 c2)).run Try.prog w2 = .ok (.string ⟨#[1, 0, 9, 0, 3, 0, 0, 0, 5, 0, 0, 0, 2, 0, 6, 0, 1, 0, 7, 0, 10, 4, 0, 2]⟩) w2 := by
  rw [← hst]
  exact Kd.C_string (P := Try.prog) (c := c2) Try.underlying28 Try.underlying5 Try.underlying9 (Kd.C_take (m := 24) CB.out.2 (by decide))
 clear hst
 obtain ⟨b1, hb1⟩ : ∃ b1, w.heap.size + 1 = b1 := ⟨_, rfl⟩
 rw [hb1] at B1
 clear hR hb
 dsimp only
 rw [hb1]
 have Hb1 := Aside0.mk hb1
 clear hb1
 have x0 : w2.cell? ⟨b1, 0, none⟩ = some (.int .i64 3) := (blk_cell B1.out 0).trans rfl; have xf0 := blk_frozen B1.out 0; have x1 : w2.cell? ⟨b1, 1, none⟩ = some (.int .i64 5) := (blk_cell B1.out 1).trans rfl; have xf1 := blk_frozen B1.out 1; have x2 : w2.cell? ⟨b1, 2, none⟩ = some (.int .i64 0) := (blk_cell B1.out 2).trans rfl; have xf2 := blk_frozen B1.out 2; have x3 : w2.cell? ⟨b1, 3, none⟩ = some (.bool false) := (blk_cell B1.out 3).trans rfl; have xf3 := blk_frozen B1.out 3; have x4 : w2.cell? ⟨b1, 4, none⟩ = some (.slice (some ⟨w.heap.size, 0, none⟩) 1 1) := (blk_cell B1.out 4).trans rfl; have xf4 := blk_frozen B1.out 4; have x5 : w2.cell? ⟨b1, 5, none⟩ = some (.slice none 0 0) := (blk_cell B1.out 5).trans rfl; have xf5 := blk_frozen B1.out 5
 go_wp2_with (
  first
  | ((with_reducible refine gate_callee (f := 19) rfl ?_); refine goesL_ (some 32) rfl rfl Try.func19 (by kernel_rfl) rfl #[.slice A2 aw.B.length c2] rfl (by (try simp only [List.map_toArray, List.map_cons, List.map_nil]); first | done | rfl | (simp only [List.length_drop, List.length_take]; rfl)) ?_; refine (lsa_Decode.calls 60 A2 c2 aw.B 3 5 0 false aw.A [] 0 w2 CB.out.2 CB.out.1 aw.dec).mono ?_; rintro e w3 ⟨v4, v5, rfl, hR4, hR5, hb⟩; refine ⟨_, rfl, ?_⟩; obtain ⟨A4, c4, rfl⟩ := Kd.R_slice hR4; obtain ⟨A5, c5, rfl⟩ := Kd.R_slice hR5; have C4 := Aside0.mk (Kd.R_reads' hR4).2; have C5 := Aside0.mk (Kd.R_reads' hR5).2; have B1a := Aside0.mk (blk_below B1.out hb); have CAa := Aside0.mk (Kd.C_below CA.out hb); have HBa := Aside0.mk (below_step HB.out hb); clear hR4 hR5 hb)
  | ((with_reducible refine gate_dst (N := 4) rfl ?_); refine bx_ 4 #[.int .i64 0, .int .i64 0, .int .i64 0, .bool false, .slice none 0 0, .slice none 0 0] 25 rfl rfl ?hr ?_; (case hr => go_simp; try rfl); intro b4 hg w4 hbox hb; have N4 : b1 ≠ b4 := (by rw [hg]; exact Nat.ne_of_lt (blk_lt B1a.out)); have B4 := Aside0.mk hbox; have HW := Aside0.mk (Below.setCell (Below.setCell (Below.setCell (Below.setCell (Below.setCell (Below.setCell hb (p := ⟨b4, 0, none⟩) (Nat.le_of_eq hg.symm) (.int .i64 3)) (p := ⟨b4, 1, none⟩) (Nat.le_of_eq hg.symm) (.int .i64 5)) (p := ⟨b4, 2, none⟩) (Nat.le_of_eq hg.symm) (.int .i64 0)) (p := ⟨b4, 3, none⟩) (Nat.le_of_eq hg.symm) (.bool false)) (p := ⟨b4, 4, none⟩) (Nat.le_of_eq hg.symm) (.slice A4 aw.A.length c4)) (p := ⟨b4, 5, none⟩) (Nat.le_of_eq hg.symm) (.slice A5 0 c5)); have B1b := Aside0.mk (blk_below B1a.out hb); obtain ⟨y0, y1, y2, y3, y4, y5, yf0, yf1, yf2, yf3, yf4, yf5⟩ := c6_ B4; obtain ⟨z0, z1, z2, z3, z4, z5, zf0, zf1, zf2, zf3, zf4, zf5⟩ := c6_ B1b; clear hbox hb hg)
  )
 have B1c := Aside0.mk (blk_below B1a.out HW.out)
 have CAc := Aside0.mk (Kd.C_below CAa.out HW.out)
 have C4c := Aside0.mk (Kd.C_below C4.out.2 HW.out)
 have C5c := Aside0.mk (Kd.C_below C5.out.2 HW.out)
 have HBc := Aside0.mk (below_step HBa.out HW.out)
 have B4c := Aside0.mk (blk_put (cs' := #[.int .i64 3, .int .i64 5, .int .i64 0, .bool false, .slice A4 aw.A.length c4, .slice A5 0 c5]) (blk_put (cs' := #[.int .i64 3, .int .i64 5, .int .i64 0, .bool false, .slice A4 aw.A.length c4, .slice none 0 0]) (blk_put (cs' := #[.int .i64 3, .int .i64 5, .int .i64 0, .bool false, .slice none 0 0, .slice none 0 0]) (blk_put (cs' := #[.int .i64 3, .int .i64 5, .int .i64 0, .bool false, .slice none 0 0, .slice none 0 0]) (blk_put (cs' := #[.int .i64 3, .int .i64 5, .int .i64 0, .bool false, .slice none 0 0, .slice none 0 0]) (blk_put (cs' := #[.int .i64 3, .int .i64 0, .int .i64 0, .bool false, .slice none 0 0, .slice none 0 0]) B4.out 0 (.int .i64 3) rfl) 1 (.int .i64 5) rfl) 2 (.int .i64 0) rfl) 3 (.bool false) rfl) 4 (.slice A4 aw.A.length c4) rfl) 5 (.slice A5 0 c5) rfl)
 clear HW B1b B1a B4 y0 y1 y2 y3 y4 y5 yf0 yf1 yf2 yf3 yf4 yf5 z0 z1 z2 z3 z4 z5 zf0 zf1 zf2 zf3 zf4 zf5 x0 x1 x2 x3 x4 x5 xf0 xf1 xf2 xf3 xf4 xf5
 generalize ((((((w4.setCell ⟨b4, 0, none⟩ (.int .i64 3)).setCell ⟨b4, 1, none⟩ (.int .i64 5)).setCell ⟨b4, 2, none⟩ (.int .i64 0)).setCell ⟨b4, 3, none⟩ (.bool false)).setCell ⟨b4, 4, none⟩ (.slice A4 aw.A.length c4)).setCell ⟨b4, 5, none⟩ (.slice A5 0 c5)) = w5 at B1c CAc C4c C5c HBc B4c ⊢
 have x0 : w5.cell? ⟨b1, 0, none⟩ = some (.int .i64 3) := (blk_cell B1c.out 0).trans rfl; have xf0 := blk_frozen B1c.out 0; have x1 : w5.cell? ⟨b1, 1, none⟩ = some (.int .i64 5) := (blk_cell B1c.out 1).trans rfl; have xf1 := blk_frozen B1c.out 1; have x2 : w5.cell? ⟨b1, 2, none⟩ = some (.int .i64 0) := (blk_cell B1c.out 2).trans rfl; have xf2 := blk_frozen B1c.out 2; have x3 : w5.cell? ⟨b1, 3, none⟩ = some (.bool false) := (blk_cell B1c.out 3).trans rfl; have xf3 := blk_frozen B1c.out 3; have x4 : w5.cell? ⟨b1, 4, none⟩ = some (.slice (some ⟨w.heap.size, 0, none⟩) 1 1) := (blk_cell B1c.out 4).trans rfl; have xf4 := blk_frozen B1c.out 4; have x5 : w5.cell? ⟨b1, 5, none⟩ = some (.slice none 0 0) := (blk_cell B1c.out 5).trans rfl; have xf5 := blk_frozen B1c.out 5
 refine (lsa_Purge.calls 60 3 5 0 false (some ⟨w.heap.size, 0, none⟩) 1 aw.A none 0 [] 3 5 3600 false [] [] 0 w5 CAc.out (by decide) (Kd.C_nil _ _) (Nat.le_refl _) aw.pur).mono ?_
 rintro e w6 ⟨v6, v7, rfl, hR6, hR7, hb⟩
 obtain ⟨A6, c6, rfl⟩ := Kd.R_slice hR6
 obtain ⟨A7, c7, rfl⟩ := Kd.R_slice hR7
 have C6 := Aside0.mk (Kd.R_reads' hR6).2
 have C7 := Aside0.mk (Kd.R_reads' hR7).2
 have B1d := Aside0.mk (blk_below B1c.out hb)
 have CAd := Aside0.mk (Kd.C_below CAc.out hb)
 have C4d := Aside0.mk (Kd.C_below C4c.out hb)
 have C5d := Aside0.mk (Kd.C_below C5c.out hb)
 have B4d := Aside0.mk (blk_below B4c.out hb)
 have HBd := Aside0.mk (below_step HBc.out hb)
 clear hR6 hR7 hb x0 x1 x2 x3 x4 x5 xf0 xf1 xf2 xf3 xf4 xf5
 dsimp only
 go_upto_region 7 with (
  first
  | ((with_reducible refine gate_dst (N := 6) rfl ?_); refine bx_ 6 #[.int .i64 0, .int .i64 0, .int .i64 0, .bool false, .slice none 0 0, .slice none 0 0] 25 rfl rfl ?hr ?_; (case hr => go_simp; try rfl); intro b6 hg w7 hbox hb; have N6 : b1 ≠ b6 := (by rw [hg]; exact Nat.ne_of_lt (blk_lt B1d.out)); have N46 : b4 ≠ b6 := (by rw [hg]; exact Nat.ne_of_lt (blk_lt B4d.out)); have B6 := Aside0.mk hbox; have HW := Aside0.mk (Below.setCell (Below.setCell (Below.setCell (Below.setCell (Below.setCell (Below.setCell hb (p := ⟨b6, 0, none⟩) (Nat.le_of_eq hg.symm) (.int .i64 3)) (p := ⟨b6, 1, none⟩) (Nat.le_of_eq hg.symm) (.int .i64 5)) (p := ⟨b6, 2, none⟩) (Nat.le_of_eq hg.symm) (.int .i64 3600)) (p := ⟨b6, 3, none⟩) (Nat.le_of_eq hg.symm) (.bool false)) (p := ⟨b6, 4, none⟩) (Nat.le_of_eq hg.symm) (.slice A6 0 c6)) (p := ⟨b6, 5, none⟩) (Nat.le_of_eq hg.symm) (.slice A7 0 c7)); obtain ⟨y0, y1, y2, y3, y4, y5, yf0, yf1, yf2, yf3, yf4, yf5⟩ := c6_ B6; clear hbox hb hg)
  )
 have B1e := Aside0.mk (blk_below B1d.out HW.out)
 have B4e := Aside0.mk (blk_below B4d.out HW.out)
 have CAe := Aside0.mk (Kd.C_below CAd.out HW.out)
 have C4e := Aside0.mk (Kd.C_below C4d.out HW.out)
 have C5e := Aside0.mk (Kd.C_below C5d.out HW.out)
 have C6e := Aside0.mk (Kd.C_below C6.out.2 HW.out)
 have C7e := Aside0.mk (Kd.C_below C7.out.2 HW.out)
 have HBe := Aside0.mk (below_step HBd.out HW.out)
 have B6e := Aside0.mk (blk_put (cs' := #[.int .i64 3, .int .i64 5, .int .i64 3600, .bool false, .slice A6 0 c6, .slice A7 0 c7]) (blk_put (cs' := #[.int .i64 3, .int .i64 5, .int .i64 3600, .bool false, .slice A6 0 c6, .slice none 0 0]) (blk_put (cs' := #[.int .i64 3, .int .i64 5, .int .i64 3600, .bool false, .slice none 0 0, .slice none 0 0]) (blk_put (cs' := #[.int .i64 3, .int .i64 5, .int .i64 3600, .bool false, .slice none 0 0, .slice none 0 0]) (blk_put (cs' := #[.int .i64 3, .int .i64 5, .int .i64 0, .bool false, .slice none 0 0, .slice none 0 0]) (blk_put (cs' := #[.int .i64 3, .int .i64 0, .int .i64 0, .bool false, .slice none 0 0, .slice none 0 0]) B6.out 0 (.int .i64 3) rfl) 1 (.int .i64 5) rfl) 2 (.int .i64 3600) rfl) 3 (.bool false) rfl) 4 (.slice A6 0 c6) rfl) 5 (.slice A7 0 c7) rfl)
 clear HW B1d B4d B6 y0 y1 y2 y3 y4 y5 yf0 yf1 yf2 yf3 yf4 yf5
 generalize ((((((w7.setCell ⟨b6, 0, none⟩ (.int .i64 3)).setCell ⟨b6, 1, none⟩ (.int .i64 5)).setCell ⟨b6, 2, none⟩ (.int .i64 3600)).setCell ⟨b6, 3, none⟩ (.bool false)).setCell ⟨b6, 4, none⟩ (.slice A6 0 c6)).setCell ⟨b6, 5, none⟩ (.slice A7 0 c7)) = w8 at B1e B4e CAe C4e C5e C6e C7e HBe B6e ⊢
 have x0 : w8.cell? ⟨b1, 0, none⟩ = some (.int .i64 3) := (blk_cell B1e.out 0).trans rfl; have xf0 := blk_frozen B1e.out 0; have x1 : w8.cell? ⟨b1, 1, none⟩ = some (.int .i64 5) := (blk_cell B1e.out 1).trans rfl; have xf1 := blk_frozen B1e.out 1; have x2 : w8.cell? ⟨b1, 2, none⟩ = some (.int .i64 0) := (blk_cell B1e.out 2).trans rfl; have xf2 := blk_frozen B1e.out 2; have x3 : w8.cell? ⟨b1, 3, none⟩ = some (.bool false) := (blk_cell B1e.out 3).trans rfl; have xf3 := blk_frozen B1e.out 3; have x4 : w8.cell? ⟨b1, 4, none⟩ = some (.slice (some ⟨w.heap.size, 0, none⟩) 1 1) := (blk_cell B1e.out 4).trans rfl; have xf4 := blk_frozen B1e.out 4; have x5 : w8.cell? ⟨b1, 5, none⟩ = some (.slice none 0 0) := (blk_cell B1e.out 5).trans rfl; have xf5 := blk_frozen B1e.out 5
 (try simp only [Act.put, List.setIfInBounds_toArray, List.set_cons_zero, List.set_cons_succ])
 go_upto_region 9 with (
  first
  | ((with_reducible refine gate_dst (N := 8) rfl ?_); refine bx_ 8 #[.int .i64 0, .int .i64 0, .int .i64 0, .bool false, .slice none 0 0, .slice none 0 0] 25 rfl rfl ?hr ?_; (case hr => go_simp; try rfl); intro b8 hg w9 hbox hb; have N8 : b1 ≠ b8 := (by rw [hg]; exact Nat.ne_of_lt (blk_lt B1e.out)); have B8 := Aside0.mk hbox; have HW := Aside0.mk (Below.setCell (Below.setCell (Below.setCell (Below.setCell (Below.setCell (Below.setCell (Below.setCell hb (p := ⟨b8, 0, none⟩) (Nat.le_of_eq hg.symm) (.int .i64 3)) (p := ⟨b8, 1, none⟩) (Nat.le_of_eq hg.symm) (.int .i64 5)) (p := ⟨b8, 2, none⟩) (Nat.le_of_eq hg.symm) (.int .i64 0)) (p := ⟨b8, 3, none⟩) (Nat.le_of_eq hg.symm) (.bool false)) (p := ⟨b8, 4, none⟩) (Nat.le_of_eq hg.symm) (.slice (some ⟨w.heap.size, 0, none⟩) 1 1)) (p := ⟨b8, 5, none⟩) (Nat.le_of_eq hg.symm) (.slice none 0 0)) (p := ⟨b8, 1, none⟩) (Nat.le_of_eq hg.symm) (.int .i64 6)); obtain ⟨y0, y1, y2, y3, y4, y5, yf0, yf1, yf2, yf3, yf4, yf5⟩ := c6_ B8; clear hbox hb hg)
  )
 have B1f := Aside0.mk (blk_below B1e.out HW.out)
 have B4f := Aside0.mk (blk_below B4e.out HW.out)
 have B6f := Aside0.mk (blk_below B6e.out HW.out)
 have CAf := Aside0.mk (Kd.C_below CAe.out HW.out)
 have C4f := Aside0.mk (Kd.C_below C4e.out HW.out)
 have C5f := Aside0.mk (Kd.C_below C5e.out HW.out)
 have C6f := Aside0.mk (Kd.C_below C6e.out HW.out)
 have C7f := Aside0.mk (Kd.C_below C7e.out HW.out)
 have HBf := Aside0.mk (below_step HBe.out HW.out)
 have B8f := Aside0.mk (blk_put (cs' := #[.int .i64 3, .int .i64 6, .int .i64 0, .bool false, .slice (some ⟨w.heap.size, 0, none⟩) 1 1, .slice none 0 0]) (blk_put (cs' := #[.int .i64 3, .int .i64 5, .int .i64 0, .bool false, .slice (some ⟨w.heap.size, 0, none⟩) 1 1, .slice none 0 0]) (blk_put (cs' := #[.int .i64 3, .int .i64 5, .int .i64 0, .bool false, .slice (some ⟨w.heap.size, 0, none⟩) 1 1, .slice none 0 0]) (blk_put (cs' := #[.int .i64 3, .int .i64 5, .int .i64 0, .bool false, .slice none 0 0, .slice none 0 0]) (blk_put (cs' := #[.int .i64 3, .int .i64 5, .int .i64 0, .bool false, .slice none 0 0, .slice none 0 0]) (blk_put (cs' := #[.int .i64 3, .int .i64 5, .int .i64 0, .bool false, .slice none 0 0, .slice none 0 0]) (blk_put (cs' := #[.int .i64 3, .int .i64 0, .int .i64 0, .bool false, .slice none 0 0, .slice none 0 0]) B8.out 0 (.int .i64 3) rfl) 1 (.int .i64 5) rfl) 2 (.int .i64 0) rfl) 3 (.bool false) rfl) 4 (.slice (some ⟨w.heap.size, 0, none⟩) 1 1) rfl) 5 (.slice none 0 0) rfl) 1 (.int .i64 6) rfl)
 clear HW B1e B4e B6e B8 y0 y1 y2 y3 y4 y5 yf0 yf1 yf2 yf3 yf4 yf5 x0 x1 x2 x3 x4 x5 xf0 xf1 xf2 xf3 xf4 xf5
 generalize (((((((w9.setCell ⟨b8, 0, none⟩ (.int .i64 3)).setCell ⟨b8, 1, none⟩ (.int .i64 5)).setCell ⟨b8, 2, none⟩ (.int .i64 0)).setCell ⟨b8, 3, none⟩ (.bool false)).setCell ⟨b8, 4, none⟩ (.slice (some ⟨w.heap.size, 0, none⟩) 1 1)).setCell ⟨b8, 5, none⟩ (.slice none 0 0)).setCell ⟨b8, 1, none⟩ (.int .i64 6)) = v0 at B1f B4f B6f CAf C4f C5f C6f C7f HBf B8f ⊢
 have x0 : v0.cell? ⟨b1, 0, none⟩ = some (.int .i64 3) := (blk_cell B1f.out 0).trans rfl; have xf0 := blk_frozen B1f.out 0; have x1 : v0.cell? ⟨b1, 1, none⟩ = some (.int .i64 5) := (blk_cell B1f.out 1).trans rfl; have xf1 := blk_frozen B1f.out 1; have x2 : v0.cell? ⟨b1, 2, none⟩ = some (.int .i64 0) := (blk_cell B1f.out 2).trans rfl; have xf2 := blk_frozen B1f.out 2; have x3 : v0.cell? ⟨b1, 3, none⟩ = some (.bool false) := (blk_cell B1f.out 3).trans rfl; have xf3 := blk_frozen B1f.out 3; have x4 : v0.cell? ⟨b1, 4, none⟩ = some (.slice (some ⟨w.heap.size, 0, none⟩) 1 1) := (blk_cell B1f.out 4).trans rfl; have xf4 := blk_frozen B1f.out 4; have x5 : v0.cell? ⟨b1, 5, none⟩ = some (.slice none 0 0) := (blk_cell B1f.out 5).trans rfl; have xf5 := blk_frozen B1f.out 5
 have y0 : v0.cell? ⟨b4, 0, none⟩ = some (.int .i64 3) := (blk_cell B4f.out 0).trans rfl; have yf0 := blk_frozen B4f.out 0; have y1 : v0.cell? ⟨b4, 1, none⟩ = some (.int .i64 5) := (blk_cell B4f.out 1).trans rfl; have yf1 := blk_frozen B4f.out 1; have y2 : v0.cell? ⟨b4, 2, none⟩ = some (.int .i64 0) := (blk_cell B4f.out 2).trans rfl; have yf2 := blk_frozen B4f.out 2; have y3 : v0.cell? ⟨b4, 3, none⟩ = some (.bool false) := (blk_cell B4f.out 3).trans rfl; have yf3 := blk_frozen B4f.out 3; have y4 : v0.cell? ⟨b4, 4, none⟩ = some (.slice A4 aw.A.length c4) := (blk_cell B4f.out 4).trans rfl; have yf4 := blk_frozen B4f.out 4; have y5 : v0.cell? ⟨b4, 5, none⟩ = some (.slice A5 0 c5) := (blk_cell B4f.out 5).trans rfl; have yf5 := blk_frozen B4f.out 5
 have z0 : v0.cell? ⟨b6, 0, none⟩ = some (.int .i64 3) := (blk_cell B6f.out 0).trans rfl; have zf0 := blk_frozen B6f.out 0; have z1 : v0.cell? ⟨b6, 1, none⟩ = some (.int .i64 5) := (blk_cell B6f.out 1).trans rfl; have zf1 := blk_frozen B6f.out 1; have z2 : v0.cell? ⟨b6, 2, none⟩ = some (.int .i64 3600) := (blk_cell B6f.out 2).trans rfl; have zf2 := blk_frozen B6f.out 2; have z3 : v0.cell? ⟨b6, 3, none⟩ = some (.bool false) := (blk_cell B6f.out 3).trans rfl; have zf3 := blk_frozen B6f.out 3; have z4 : v0.cell? ⟨b6, 4, none⟩ = some (.slice A6 0 c6) := (blk_cell B6f.out 4).trans rfl; have zf4 := blk_frozen B6f.out 4; have z5 : v0.cell? ⟨b6, 5, none⟩ = some (.slice A7 0 c7) := (blk_cell B6f.out 5).trans rfl; have zf5 := blk_frozen B6f.out 5
 have p0 : v0.cell? ⟨b8, 0, none⟩ = some (.int .i64 3) := (blk_cell B8f.out 0).trans rfl; have pf0 := blk_frozen B8f.out 0; have p1 : v0.cell? ⟨b8, 1, none⟩ = some (.int .i64 6) := (blk_cell B8f.out 1).trans rfl; have pf1 := blk_frozen B8f.out 1; have p2 : v0.cell? ⟨b8, 2, none⟩ = some (.int .i64 0) := (blk_cell B8f.out 2).trans rfl; have pf2 := blk_frozen B8f.out 2; have p3 : v0.cell? ⟨b8, 3, none⟩ = some (.bool false) := (blk_cell B8f.out 3).trans rfl; have pf3 := blk_frozen B8f.out 3; have p4 : v0.cell? ⟨b8, 4, none⟩ = some (.slice (some ⟨w.heap.size, 0, none⟩) 1 1) := (blk_cell B8f.out 4).trans rfl; have pf4 := blk_frozen B8f.out 4; have p5 : v0.cell? ⟨b8, 5, none⟩ = some (.slice none 0 0) := (blk_cell B8f.out 5).trans rfl; have pf5 := blk_frozen B8f.out 5
 (try simp only [Act.put, List.setIfInBounds_toArray, List.set_cons_zero, List.set_cons_succ])
 go_wp2_with fail
 refine (waypointref32_Equal.calls 60 3 5 0 false (some ⟨w.heap.size, 0, none⟩) 1 aw.A none 0 [] 3 5 0 false A4 c4 aw.A A5 c5 [] true v0 CAf.out (by decide) (Kd.C_nil _ _) (Nat.le_refl _) C4f.out C4.out.1 C5f.out C5.out.1 aw.eq).mono ?_
 rintro e v1 ⟨rfl, hb⟩
 dsimp only
 have B1g := Aside0.mk (blk_below B1f.out hb)
 have B4g := Aside0.mk (blk_below B4f.out hb)
 have B6g := Aside0.mk (blk_below B6f.out hb)
 have B8g := Aside0.mk (blk_below B8f.out hb)
 have CAg := Aside0.mk (Kd.C_below CAf.out hb)
 have C4g := Aside0.mk (Kd.C_below C4f.out hb)
 have C5g := Aside0.mk (Kd.C_below C5f.out hb)
 have C6g := Aside0.mk (Kd.C_below C6f.out hb)
 have C7g := Aside0.mk (Kd.C_below C7f.out hb)
 have HBg := Aside0.mk (below_step HBf.out hb)
 clear hb x0 xf0 x1 xf1 x2 xf2 x3 xf3 x4 xf4 x5 xf5 y0 yf0 y1 yf1 y2 yf2 y3 yf3 y4 yf4 y5 yf5 z0 zf0 z1 zf1 z2 zf2 z3 zf3 z4 zf4 z5 zf5 p0 pf0 p1 pf1 p2 pf2 p3 pf3 p4 pf4 p5 pf5
 have x0 : v1.cell? ⟨b1, 0, none⟩ = some (.int .i64 3) := (blk_cell B1g.out 0).trans rfl; have xf0 := blk_frozen B1g.out 0; have x1 : v1.cell? ⟨b1, 1, none⟩ = some (.int .i64 5) := (blk_cell B1g.out 1).trans rfl; have xf1 := blk_frozen B1g.out 1; have x2 : v1.cell? ⟨b1, 2, none⟩ = some (.int .i64 0) := (blk_cell B1g.out 2).trans rfl; have xf2 := blk_frozen B1g.out 2; have x3 : v1.cell? ⟨b1, 3, none⟩ = some (.bool false) := (blk_cell B1g.out 3).trans rfl; have xf3 := blk_frozen B1g.out 3; have x4 : v1.cell? ⟨b1, 4, none⟩ = some (.slice (some ⟨w.heap.size, 0, none⟩) 1 1) := (blk_cell B1g.out 4).trans rfl; have xf4 := blk_frozen B1g.out 4; have x5 : v1.cell? ⟨b1, 5, none⟩ = some (.slice none 0 0) := (blk_cell B1g.out 5).trans rfl; have xf5 := blk_frozen B1g.out 5
 have y0 : v1.cell? ⟨b4, 0, none⟩ = some (.int .i64 3) := (blk_cell B4g.out 0).trans rfl; have yf0 := blk_frozen B4g.out 0; have y1 : v1.cell? ⟨b4, 1, none⟩ = some (.int .i64 5) := (blk_cell B4g.out 1).trans rfl; have yf1 := blk_frozen B4g.out 1; have y2 : v1.cell? ⟨b4, 2, none⟩ = some (.int .i64 0) := (blk_cell B4g.out 2).trans rfl; have yf2 := blk_frozen B4g.out 2; have y3 : v1.cell? ⟨b4, 3, none⟩ = some (.bool false) := (blk_cell B4g.out 3).trans rfl; have yf3 := blk_frozen B4g.out 3; have y4 : v1.cell? ⟨b4, 4, none⟩ = some (.slice A4 aw.A.length c4) := (blk_cell B4g.out 4).trans rfl; have yf4 := blk_frozen B4g.out 4; have y5 : v1.cell? ⟨b4, 5, none⟩ = some (.slice A5 0 c5) := (blk_cell B4g.out 5).trans rfl; have yf5 := blk_frozen B4g.out 5
 have z0 : v1.cell? ⟨b6, 0, none⟩ = some (.int .i64 3) := (blk_cell B6g.out 0).trans rfl; have zf0 := blk_frozen B6g.out 0; have z1 : v1.cell? ⟨b6, 1, none⟩ = some (.int .i64 5) := (blk_cell B6g.out 1).trans rfl; have zf1 := blk_frozen B6g.out 1; have z2 : v1.cell? ⟨b6, 2, none⟩ = some (.int .i64 3600) := (blk_cell B6g.out 2).trans rfl; have zf2 := blk_frozen B6g.out 2; have z3 : v1.cell? ⟨b6, 3, none⟩ = some (.bool false) := (blk_cell B6g.out 3).trans rfl; have zf3 := blk_frozen B6g.out 3; have z4 : v1.cell? ⟨b6, 4, none⟩ = some (.slice A6 0 c6) := (blk_cell B6g.out 4).trans rfl; have zf4 := blk_frozen B6g.out 4; have z5 : v1.cell? ⟨b6, 5, none⟩ = some (.slice A7 0 c7) := (blk_cell B6g.out 5).trans rfl; have zf5 := blk_frozen B6g.out 5
 have p0 : v1.cell? ⟨b8, 0, none⟩ = some (.int .i64 3) := (blk_cell B8g.out 0).trans rfl; have pf0 := blk_frozen B8g.out 0; have p1 : v1.cell? ⟨b8, 1, none⟩ = some (.int .i64 6) := (blk_cell B8g.out 1).trans rfl; have pf1 := blk_frozen B8g.out 1; have p2 : v1.cell? ⟨b8, 2, none⟩ = some (.int .i64 0) := (blk_cell B8g.out 2).trans rfl; have pf2 := blk_frozen B8g.out 2; have p3 : v1.cell? ⟨b8, 3, none⟩ = some (.bool false) := (blk_cell B8g.out 3).trans rfl; have pf3 := blk_frozen B8g.out 3; have p4 : v1.cell? ⟨b8, 4, none⟩ = some (.slice (some ⟨w.heap.size, 0, none⟩) 1 1) := (blk_cell B8g.out 4).trans rfl; have pf4 := blk_frozen B8g.out 4; have p5 : v1.cell? ⟨b8, 5, none⟩ = some (.slice none 0 0) := (blk_cell B8g.out 5).trans rfl; have pf5 := blk_frozen B8g.out 5
 go_wp2_with fail
 refine (lsa_Newer.calls 60 3 6 0 false (some ⟨w.heap.size, 0, none⟩) 1 aw.A none 0 [] 3 5 0 false (some ⟨w.heap.size, 0, none⟩) 1 aw.A none 0 [] 1 v1 CAg.out (by decide) (Kd.C_nil _ _) (Nat.le_refl _) CAg.out (by decide) (Kd.C_nil _ _) (Nat.le_refl _) aw.n1).mono ?_
 rintro e v2 ⟨rfl, hb⟩
 dsimp only
 have B1h := Aside0.mk (blk_below B1g.out hb)
 have B4h := Aside0.mk (blk_below B4g.out hb)
 have B6h := Aside0.mk (blk_below B6g.out hb)
 have B8h := Aside0.mk (blk_below B8g.out hb)
 have CAh := Aside0.mk (Kd.C_below CAg.out hb)
 have C4h := Aside0.mk (Kd.C_below C4g.out hb)
 have C5h := Aside0.mk (Kd.C_below C5g.out hb)
 have C6h := Aside0.mk (Kd.C_below C6g.out hb)
 have C7h := Aside0.mk (Kd.C_below C7g.out hb)
 have HBh := Aside0.mk (below_step HBg.out hb)
 clear hb x0 xf0 x1 xf1 x2 xf2 x3 xf3 x4 xf4 x5 xf5 y0 yf0 y1 yf1 y2 yf2 y3 yf3 y4 yf4 y5 yf5 z0 zf0 z1 zf1 z2 zf2 z3 zf3 z4 zf4 z5 zf5 p0 pf0 p1 pf1 p2 pf2 p3 pf3 p4 pf4 p5 pf5
 have x0 : v2.cell? ⟨b1, 0, none⟩ = some (.int .i64 3) := (blk_cell B1h.out 0).trans rfl; have xf0 := blk_frozen B1h.out 0; have x1 : v2.cell? ⟨b1, 1, none⟩ = some (.int .i64 5) := (blk_cell B1h.out 1).trans rfl; have xf1 := blk_frozen B1h.out 1; have x2 : v2.cell? ⟨b1, 2, none⟩ = some (.int .i64 0) := (blk_cell B1h.out 2).trans rfl; have xf2 := blk_frozen B1h.out 2; have x3 : v2.cell? ⟨b1, 3, none⟩ = some (.bool false) := (blk_cell B1h.out 3).trans rfl; have xf3 := blk_frozen B1h.out 3; have x4 : v2.cell? ⟨b1, 4, none⟩ = some (.slice (some ⟨w.heap.size, 0, none⟩) 1 1) := (blk_cell B1h.out 4).trans rfl; have xf4 := blk_frozen B1h.out 4; have x5 : v2.cell? ⟨b1, 5, none⟩ = some (.slice none 0 0) := (blk_cell B1h.out 5).trans rfl; have xf5 := blk_frozen B1h.out 5
 have y0 : v2.cell? ⟨b4, 0, none⟩ = some (.int .i64 3) := (blk_cell B4h.out 0).trans rfl; have yf0 := blk_frozen B4h.out 0; have y1 : v2.cell? ⟨b4, 1, none⟩ = some (.int .i64 5) := (blk_cell B4h.out 1).trans rfl; have yf1 := blk_frozen B4h.out 1; have y2 : v2.cell? ⟨b4, 2, none⟩ = some (.int .i64 0) := (blk_cell B4h.out 2).trans rfl; have yf2 := blk_frozen B4h.out 2; have y3 : v2.cell? ⟨b4, 3, none⟩ = some (.bool false) := (blk_cell B4h.out 3).trans rfl; have yf3 := blk_frozen B4h.out 3; have y4 : v2.cell? ⟨b4, 4, none⟩ = some (.slice A4 aw.A.length c4) := (blk_cell B4h.out 4).trans rfl; have yf4 := blk_frozen B4h.out 4; have y5 : v2.cell? ⟨b4, 5, none⟩ = some (.slice A5 0 c5) := (blk_cell B4h.out 5).trans rfl; have yf5 := blk_frozen B4h.out 5
 have z0 : v2.cell? ⟨b6, 0, none⟩ = some (.int .i64 3) := (blk_cell B6h.out 0).trans rfl; have zf0 := blk_frozen B6h.out 0; have z1 : v2.cell? ⟨b6, 1, none⟩ = some (.int .i64 5) := (blk_cell B6h.out 1).trans rfl; have zf1 := blk_frozen B6h.out 1; have z2 : v2.cell? ⟨b6, 2, none⟩ = some (.int .i64 3600) := (blk_cell B6h.out 2).trans rfl; have zf2 := blk_frozen B6h.out 2; have z3 : v2.cell? ⟨b6, 3, none⟩ = some (.bool false) := (blk_cell B6h.out 3).trans rfl; have zf3 := blk_frozen B6h.out 3; have z4 : v2.cell? ⟨b6, 4, none⟩ = some (.slice A6 0 c6) := (blk_cell B6h.out 4).trans rfl; have zf4 := blk_frozen B6h.out 4; have z5 : v2.cell? ⟨b6, 5, none⟩ = some (.slice A7 0 c7) := (blk_cell B6h.out 5).trans rfl; have zf5 := blk_frozen B6h.out 5
 have p0 : v2.cell? ⟨b8, 0, none⟩ = some (.int .i64 3) := (blk_cell B8h.out 0).trans rfl; have pf0 := blk_frozen B8h.out 0; have p1 : v2.cell? ⟨b8, 1, none⟩ = some (.int .i64 6) := (blk_cell B8h.out 1).trans rfl; have pf1 := blk_frozen B8h.out 1; have p2 : v2.cell? ⟨b8, 2, none⟩ = some (.int .i64 0) := (blk_cell B8h.out 2).trans rfl; have pf2 := blk_frozen B8h.out 2; have p3 : v2.cell? ⟨b8, 3, none⟩ = some (.bool false) := (blk_cell B8h.out 3).trans rfl; have pf3 := blk_frozen B8h.out 3; have p4 : v2.cell? ⟨b8, 4, none⟩ = some (.slice (some ⟨w.heap.size, 0, none⟩) 1 1) := (blk_cell B8h.out 4).trans rfl; have pf4 := blk_frozen B8h.out 4; have p5 : v2.cell? ⟨b8, 5, none⟩ = some (.slice none 0 0) := (blk_cell B8h.out 5).trans rfl; have pf5 := blk_frozen B8h.out 5
 go_wp2_with fail
 refine (lsa_Newer.calls 60 3 5 3600 false A6 c6 [] A7 c7 [] 3 5 0 false (some ⟨w.heap.size, 0, none⟩) 1 aw.A none 0 [] 1 v2 C6h.out C6.out.1 C7h.out C7.out.1 CAh.out (by decide) (Kd.C_nil _ _) (Nat.le_refl _) aw.n2).mono ?_
 rintro e v3 ⟨rfl, hb⟩
 dsimp only
 have B1i := Aside0.mk (blk_below B1h.out hb)
 have B4i := Aside0.mk (blk_below B4h.out hb)
 have B6i := Aside0.mk (blk_below B6h.out hb)
 have B8i := Aside0.mk (blk_below B8h.out hb)
 have CAi := Aside0.mk (Kd.C_below CAh.out hb)
 have C4i := Aside0.mk (Kd.C_below C4h.out hb)
 have C5i := Aside0.mk (Kd.C_below C5h.out hb)
 have C6i := Aside0.mk (Kd.C_below C6h.out hb)
 have C7i := Aside0.mk (Kd.C_below C7h.out hb)
 have HBi := Aside0.mk (below_step HBh.out hb)
 clear hb x0 xf0 x1 xf1 x2 xf2 x3 xf3 x4 xf4 x5 xf5 y0 yf0 y1 yf1 y2 yf2 y3 yf3 y4 yf4 y5 yf5 z0 zf0 z1 zf1 z2 zf2 z3 zf3 z4 zf4 z5 zf5 p0 pf0 p1 pf1 p2 pf2 p3 pf3 p4 pf4 p5 pf5
 have x0 : v3.cell? ⟨b1, 0, none⟩ = some (.int .i64 3) := (blk_cell B1i.out 0).trans rfl; have xf0 := blk_frozen B1i.out 0; have x1 : v3.cell? ⟨b1, 1, none⟩ = some (.int .i64 5) := (blk_cell B1i.out 1).trans rfl; have xf1 := blk_frozen B1i.out 1; have x2 : v3.cell? ⟨b1, 2, none⟩ = some (.int .i64 0) := (blk_cell B1i.out 2).trans rfl; have xf2 := blk_frozen B1i.out 2; have x3 : v3.cell? ⟨b1, 3, none⟩ = some (.bool false) := (blk_cell B1i.out 3).trans rfl; have xf3 := blk_frozen B1i.out 3; have x4 : v3.cell? ⟨b1, 4, none⟩ = some (.slice (some ⟨w.heap.size, 0, none⟩) 1 1) := (blk_cell B1i.out 4).trans rfl; have xf4 := blk_frozen B1i.out 4; have x5 : v3.cell? ⟨b1, 5, none⟩ = some (.slice none 0 0) := (blk_cell B1i.out 5).trans rfl; have xf5 := blk_frozen B1i.out 5
 have y0 : v3.cell? ⟨b4, 0, none⟩ = some (.int .i64 3) := (blk_cell B4i.out 0).trans rfl; have yf0 := blk_frozen B4i.out 0; have y1 : v3.cell? ⟨b4, 1, none⟩ = some (.int .i64 5) := (blk_cell B4i.out 1).trans rfl; have yf1 := blk_frozen B4i.out 1; have y2 : v3.cell? ⟨b4, 2, none⟩ = some (.int .i64 0) := (blk_cell B4i.out 2).trans rfl; have yf2 := blk_frozen B4i.out 2; have y3 : v3.cell? ⟨b4, 3, none⟩ = some (.bool false) := (blk_cell B4i.out 3).trans rfl; have yf3 := blk_frozen B4i.out 3; have y4 : v3.cell? ⟨b4, 4, none⟩ = some (.slice A4 aw.A.length c4) := (blk_cell B4i.out 4).trans rfl; have yf4 := blk_frozen B4i.out 4; have y5 : v3.cell? ⟨b4, 5, none⟩ = some (.slice A5 0 c5) := (blk_cell B4i.out 5).trans rfl; have yf5 := blk_frozen B4i.out 5
 have z0 : v3.cell? ⟨b6, 0, none⟩ = some (.int .i64 3) := (blk_cell B6i.out 0).trans rfl; have zf0 := blk_frozen B6i.out 0; have z1 : v3.cell? ⟨b6, 1, none⟩ = some (.int .i64 5) := (blk_cell B6i.out 1).trans rfl; have zf1 := blk_frozen B6i.out 1; have z2 : v3.cell? ⟨b6, 2, none⟩ = some (.int .i64 3600) := (blk_cell B6i.out 2).trans rfl; have zf2 := blk_frozen B6i.out 2; have z3 : v3.cell? ⟨b6, 3, none⟩ = some (.bool false) := (blk_cell B6i.out 3).trans rfl; have zf3 := blk_frozen B6i.out 3; have z4 : v3.cell? ⟨b6, 4, none⟩ = some (.slice A6 0 c6) := (blk_cell B6i.out 4).trans rfl; have zf4 := blk_frozen B6i.out 4; have z5 : v3.cell? ⟨b6, 5, none⟩ = some (.slice A7 0 c7) := (blk_cell B6i.out 5).trans rfl; have zf5 := blk_frozen B6i.out 5
 have p0 : v3.cell? ⟨b8, 0, none⟩ = some (.int .i64 3) := (blk_cell B8i.out 0).trans rfl; have pf0 := blk_frozen B8i.out 0; have p1 : v3.cell? ⟨b8, 1, none⟩ = some (.int .i64 6) := (blk_cell B8i.out 1).trans rfl; have pf1 := blk_frozen B8i.out 1; have p2 : v3.cell? ⟨b8, 2, none⟩ = some (.int .i64 0) := (blk_cell B8i.out 2).trans rfl; have pf2 := blk_frozen B8i.out 2; have p3 : v3.cell? ⟨b8, 3, none⟩ = some (.bool false) := (blk_cell B8i.out 3).trans rfl; have pf3 := blk_frozen B8i.out 3; have p4 : v3.cell? ⟨b8, 4, none⟩ = some (.slice (some ⟨w.heap.size, 0, none⟩) 1 1) := (blk_cell B8i.out 4).trans rfl; have pf4 := blk_frozen B8i.out 4; have p5 : v3.cell? ⟨b8, 5, none⟩ = some (.slice none 0 0) := (blk_cell B8i.out 5).trans rfl; have pf5 := blk_frozen B8i.out 5
 go_wp2_with fail
 refine (lsa_Newer.calls 60 3 6 0 false (some ⟨w.heap.size, 0, none⟩) 1 aw.A none 0 [] 3 5 3600 false A6 c6 [] A7 c7 [] 1 v3 CAi.out (by decide) (Kd.C_nil _ _) (Nat.le_refl _) C6i.out C6.out.1 C7i.out C7.out.1 aw.n3).mono ?_
 rintro e v4 ⟨rfl, hb⟩
 dsimp only
 have HBj := Aside0.mk (below_step HBi.out hb)
 clear hb x0 xf0 x1 xf1 x2 xf2 x3 xf3 x4 xf4 x5 xf5 y0 yf0 y1 yf1 y2 yf2 y3 yf3 y4 yf4 y5 yf5 z0 zf0 z1 zf1 z2 zf2 z3 zf3 z4 zf4 z5 zf5 p0 pf0 p1 pf1 p2 pf2 p3 pf3 p4 pf4 p5 pf5
 go_wp2_with fail
 go_ret
 exact ⟨rfl, HBj.out⟩
def waypointlaw32_awake.f : Option (Bool) := some true
theorem waypointlaw32_awake.calls (r : Bool) (w : World) (h : waypointlaw32_awake.f = some r) :
  Calls Try.prog 10 #[] w fun e w' => e = .returned (.bool r) ∧ Below w.heap.size w w' := by
 obtain rfl : true = r := Option.some.inj h
 exact waypointlaw32_awake.calls' w


/-! ### waypointref32_Few: function 11 -/
def waypointref32_Few.f (a0_0 : Int) (a0_1 : Int) (a0_2 : Int) (a0_3 : Bool) (l0_4 : List (S43)) (l0_5 : List (S56)) : Option (Bool) := if (l0_4.length : Int) ≤ 300 then (some (decide ((l0_5.length : Int) ≤ 100))) else (some false)
set_option maxHeartbeats 8000000 in
set_option maxRecDepth 100000 in
theorem waypointref32_Few.calls (a0_0 : Int) (a0_1 : Int) (a0_2 : Int) (a0_3 : Bool) (A0_4 : Option Addr) (c0_4 : Nat) (l0_4 : List (S43)) (A0_5 : Option Addr) (c0_5 : Nat) (l0_5 : List (S56)) (r : Bool) (w : World) (hr0_4 : Kd.C k43 w A0_4 l0_4.length l0_4) (hc0_4 : l0_4.length ≤ c0_4) (hr0_5 : Kd.C k56 w A0_5 l0_5.length l0_5) (hc0_5 : l0_5.length ≤ c0_5) (h : waypointref32_Few.f a0_0 a0_1 a0_2 a0_3 l0_4 l0_5 = some r) :
  Calls Try.prog 11 #[.agg #[.int .i64 a0_0, .int .i64 a0_1, .int .i64 a0_2, .bool a0_3, .slice A0_4 l0_4.length c0_4, .slice A0_5 l0_5.length c0_5]] w fun e w' => e = .returned (.bool r) ∧ Below w.heap.size w w' := by
 have hu25 := Try.underlying25
 have HR0_4 := Aside0.mk hr0_4
 have HC0_4 := Aside0.mk hc0_4
 clear hr0_4 hc0_4
 have HR0_5 := Aside0.mk hr0_5
 have HC0_5 := Aside0.mk hc0_5
 clear hr0_5 hc0_5
 have HB := Aside0.mk (Below.refl w.heap.size w)
 have H : (if (l0_4.length : Int) ≤ 300 then (some (decide ((l0_5.length : Int) ≤ 100))) else (some false)) = some r := h
 clear h
 by_cases c2 : (l0_4.length : Int) ≤ 300
 ·rw [if_pos c2] at H
  have c2b0 : decide ((l0_4.length : Int) ≤ 300) = true := decide_eq_true c2
  have c2b1 : decide (l0_4.length ≤ 300) = true := decide_eq_true (by omega)
  clear c2
  obtain rfl := Option.some.inj H
  go_enter Try.func11, Try.ntmps11
  go_wp2_with (first | ((with_reducible refine gate_dst (N := 1) rfl ?_); (try (refine gate_guard (by rfl) ?_; dsimp only)); refine box_event ?hg (N := 1) ?hd (cs := #[.int .i64 a0_0, .int .i64 a0_1, .int .i64 a0_2, .bool a0_3, .slice A0_4 l0_4.length c0_4, .slice A0_5 l0_5.length c0_5]) (t := 25) ?hr ?_; (case hd => rfl); (case hg => rfl); (case hr => first | (go_simp; done) | (go_simp; rfl)); intro gb267 hg w3 hbox hb; have BK267 := Aside0.mk (hbox); have GW267 := gs_ HB hg; have GE267 := gs_ HB hg; replace HB := bs_ HB hb; clear hb hbox hg; obtain ⟨hcz4_0, hcz4_1, hcz4_2, hcz4_3, hcz4_4, hcz4_5, hfz4_0, hfz4_1, hfz4_2, hfz4_3, hfz4_4, hfz4_5⟩ := c6_ BK267))
  go_ret
  exact ⟨by first | rfl | (simp [errW_none, errW_some] <;> rfl) | (simp [*, errW_none, errW_some] <;> rfl), by repeat (first | (with_reducible first | exact HB.out | apply bU | apply bS GE267.out) | exact HB.out)⟩
 ·rw [if_neg c2] at H
  have c2b0 : decide ((l0_4.length : Int) ≤ 300) = false := decide_eq_false c2
  have c2b1 : decide (l0_4.length ≤ 300) = false := decide_eq_false (by omega)
  clear c2
  obtain rfl := Option.some.inj H
  go_enter Try.func11, Try.ntmps11
  go_wp2_with (first | ((with_reducible refine gate_dst (N := 1) rfl ?_); (try (refine gate_guard (by rfl) ?_; dsimp only)); refine box_event ?hg (N := 1) ?hd (cs := #[.int .i64 a0_0, .int .i64 a0_1, .int .i64 a0_2, .bool a0_3, .slice A0_4 l0_4.length c0_4, .slice A0_5 l0_5.length c0_5]) (t := 25) ?hr ?_; (case hd => rfl); (case hg => rfl); (case hr => first | (go_simp; done) | (go_simp; rfl)); intro gb267 hg w5 hbox hb; have BK267 := Aside0.mk (hbox); have GW267 := gs_ HB hg; have GE267 := gs_ HB hg; replace HB := bs_ HB hb; clear hb hbox hg; obtain ⟨hcz6_0, hcz6_1, hcz6_2, hcz6_3, hcz6_4, hcz6_5, hfz6_0, hfz6_1, hfz6_2, hfz6_3, hfz6_4, hfz6_5⟩ := c6_ BK267))
  go_ret
  exact ⟨by first | rfl | (simp [errW_none, errW_some] <;> rfl) | (simp [*, errW_none, errW_some] <;> rfl), by repeat (first | (with_reducible first | exact HB.out | apply bU | apply bS GE267.out) | exact HB.out)⟩

end Go.Proofs.Ytmknjjfdlkgidaa.HLsc
