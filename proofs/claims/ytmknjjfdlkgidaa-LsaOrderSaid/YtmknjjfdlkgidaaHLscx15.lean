-- LAID by wip/hand.py, a program of this repository, over the kit's print: contracts of our own are put in. Lean checks it.
import Derived.Test.YtmknjjfdlkgidaaHLscx0
import Derived.Test.YtmknjjfdlkgidaaHLscx10
import Derived.Test.YtmknjjfdlkgidaaHLscx12
import Derived.Test.YtmknjjfdlkgidaaHLscx14
namespace Go.Proofs.Ytmknjjfdlkgidaa.HLsc
open Go.RowKit Go.Proofs.YtmknjjfdlkgidaaW.PrintWords Go.Proofs.YtmknjjfdlkgidaaW.PrintLast Go.Proofs.YtmknjjfdlkgidaaW.PrintMore
attribute [local go_sem] gtr_str leq_str max2_int min2_int max_two min_two max_three min_three max_four min_four   -- for this text's walks alone
set_option linter.unusedVariables false
set_option linter.unusedSimpArgs false

/-! ### waypointlaw32_LsaOrder: function 9 -/
mutual
def waypointlaw32_LsaOrder.j0 : Nat → Bool → Int → Int → Int → Bool → List (S43) → List (S56) → Int → Int → Int → Bool → List (S43) → List (S56) → Int → Int → Int → Bool → List (S43) → List (S56) → Option (Bool)
 | 0, _, _, _, _, _, _, _, _, _, _, _, _, _, _, _, _, _, _, _ => none
 | k + 1, x39, x300000, x300001, x300002, x300003, x300004, x300005, x301000, x301001, x301002, x301003, x301004, x301005, x302000, x302001, x302002, x302003, x302004, x302005 => if x39 = true then (some true) else ((lsa_Newer.f k x300000 x300001 x300002 x300003 x300004 x300005 x301000 x301001 x301002 x301003 x301004 x301005).bind fun t309 => ((lsa_Newer.f k x301000 x301001 x301002 x301003 x301004 x301005 x302000 x302001 x302002 x302003 x302004 x302005).bind fun t310 => ((lsa_Newer.f k x300000 x300001 x300002 x300003 x300004 x300005 x302000 x302001 x302002 x302003 x302004 x302005).bind fun t311 => ((lsa_Newer.f k x301000 x301001 x301002 x301003 x301004 x301005 x300000 x300001 x300002 x300003 x300004 x300005).bind fun t312 => (if t312 = (wrap64 (-t309)) then ((lsa_Same.f k x300000 x300001 x300002 x300003 x300004 x300005 x301000 x301001 x301002 x301003 x301004 x301005).bind fun t313 => (waypointlaw32_LsaOrder.j1 k t309 t310 t311 ((t309 == 0) != t313))) else (waypointlaw32_LsaOrder.j1 k t309 t310 t311 true))))))
def waypointlaw32_LsaOrder.j1 : Nat → Int → Int → Int → Bool → Option (Bool)
 | 0, _, _, _, _ => none
 | k + 1, x7, x8, x9, x62 => if x62 = true then (none) else (if x7 ≥ 0 then (if x8 ≥ 0 then (if x9 ≥ 0 then (some (((wrap64 (x7 + x8)) == 0) == (x9 == 0))) else (none)) else (if x7 > 0 then (some true) else (if x8 > 0 then (some true) else (some (decide (x9 < 0)))))) else (if x7 > 0 then (some true) else (if x8 > 0 then (some true) else (some (decide (x9 < 0))))))
end
def waypointlaw32_LsaOrder.f (k : Nat) (a0_0 : Int) (a0_1 : Int) (a0_2 : Int) (a0_3 : Bool) (l0_4 : List (S43)) (l0_5 : List (S56)) (a1_0 : Int) (a1_1 : Int) (a1_2 : Int) (a1_3 : Bool) (l1_4 : List (S43)) (l1_5 : List (S56)) (a2_0 : Int) (a2_1 : Int) (a2_2 : Int) (a2_3 : Bool) (l2_4 : List (S43)) (l2_5 : List (S56)) : Option (Bool) := (waypointlaw32_awake.f).bind fun t302 => (if t302 = true then ((waypointref32_Few.f a0_0 a0_1 a0_2 a0_3 l0_4 l0_5).bind fun t303 => (if t303 = true then ((waypointref32_Few.f a1_0 a1_1 a1_2 a1_3 l1_4 l1_5).bind fun t304 => (if t304 = true then ((waypointref32_Few.f a2_0 a2_1 a2_2 a2_3 l2_4 l2_5).bind fun t305 => (if t305 = true then ((waypointref32_Valid.f k a0_0 a0_1 a0_2 a0_3 l0_4 l0_5).bind fun t306 => (if t306 = true then ((waypointref32_Valid.f k a1_0 a1_1 a1_2 a1_3 l1_4 l1_5).bind fun t307 => (if t307 = true then ((waypointref32_Valid.f k a2_0 a2_1 a2_2 a2_3 l2_4 l2_5).bind fun t308 => (waypointlaw32_LsaOrder.j0 k (!t308) a0_0 a0_1 a0_2 a0_3 l0_4 l0_5 a1_0 a1_1 a1_2 a1_3 l1_4 l1_5 a2_0 a2_1 a2_2 a2_3 l2_4 l2_5)) else (waypointlaw32_LsaOrder.j0 k true a0_0 a0_1 a0_2 a0_3 l0_4 l0_5 a1_0 a1_1 a1_2 a1_3 l1_4 l1_5 a2_0 a2_1 a2_2 a2_3 l2_4 l2_5))) else (waypointlaw32_LsaOrder.j0 k true a0_0 a0_1 a0_2 a0_3 l0_4 l0_5 a1_0 a1_1 a1_2 a1_3 l1_4 l1_5 a2_0 a2_1 a2_2 a2_3 l2_4 l2_5))) else (waypointlaw32_LsaOrder.j0 k true a0_0 a0_1 a0_2 a0_3 l0_4 l0_5 a1_0 a1_1 a1_2 a1_3 l1_4 l1_5 a2_0 a2_1 a2_2 a2_3 l2_4 l2_5))) else (waypointlaw32_LsaOrder.j0 k true a0_0 a0_1 a0_2 a0_3 l0_4 l0_5 a1_0 a1_1 a1_2 a1_3 l1_4 l1_5 a2_0 a2_1 a2_2 a2_3 l2_4 l2_5))) else (waypointlaw32_LsaOrder.j0 k true a0_0 a0_1 a0_2 a0_3 l0_4 l0_5 a1_0 a1_1 a1_2 a1_3 l1_4 l1_5 a2_0 a2_1 a2_2 a2_3 l2_4 l2_5))) else (none))
theorem waypointlaw32_LsaOrder.mono_l : ∀ k, (∀ y0 y1 y2 y3 y4 y5 y6 y7 y8 y9 y10 y11 y12 y13 y14 y15 y16 y17 y18, LeO (waypointlaw32_LsaOrder.j0 k y0 y1 y2 y3 y4 y5 y6 y7 y8 y9 y10 y11 y12 y13 y14 y15 y16 y17 y18) (waypointlaw32_LsaOrder.j0 (k + 1) y0 y1 y2 y3 y4 y5 y6 y7 y8 y9 y10 y11 y12 y13 y14 y15 y16 y17 y18)) ∧ (∀ y0 y1 y2 y3, LeO (waypointlaw32_LsaOrder.j1 k y0 y1 y2 y3) (waypointlaw32_LsaOrder.j1 (k + 1) y0 y1 y2 y3))
 | 0 => ⟨fun _ _ _ _ _ _ _ _ _ _ _ _ _ _ _ _ _ _ _ r h => by simp [waypointlaw32_LsaOrder.j0] at h, fun _ _ _ _ r h => by simp [waypointlaw32_LsaOrder.j1] at h⟩
 | k + 1 => by
  obtain ⟨ih0, ih1⟩ := waypointlaw32_LsaOrder.mono_l k
  refine ⟨?_, ?_⟩
  ·intro y0 y1 y2 y3 y4 y5 y6 y7 y8 y9 y10 y11 y12 y13 y14 y15 y16 y17 y18
   unfold waypointlaw32_LsaOrder.j0
   repeat' first
   | (with_reducible exact ih0 _ _ _ _ _ _ _ _ _ _ _ _ _ _ _ _ _ _ _)
   | (with_reducible exact ih1 _ _ _ _)
   | (with_reducible exact lsa_Newer.mono _ _ _ _ _ _ _ _ _ _ _ _ _)
   | (with_reducible exact lsa_Same.mono _ _ _ _ _ _ _ _ _ _ _ _ _)
   | (with_reducible exact waypointref32_Valid.mono _ _ _ _ _ _ _)
   | (with_reducible exact LeO.refl _)
   | (with_reducible exact LeO.none _)
   | (with_reducible refine LeO.ite ?_ ?_)
   | (with_reducible refine LeO.bind ?_ (fun _ => ?_))
   | exact ih0 _ _ _ _ _ _ _ _ _ _ _ _ _ _ _ _ _ _ _
   | exact ih1 _ _ _ _
   | exact lsa_Newer.mono _ _ _ _ _ _ _ _ _ _ _ _ _
   | exact lsa_Same.mono _ _ _ _ _ _ _ _ _ _ _ _ _
   | exact waypointref32_Valid.mono _ _ _ _ _ _ _
   | exact LeO.none _
   | refine LeO.ite ?_ ?_
   | refine LeO.bind ?_ (fun _ => ?_)
  ·intro y0 y1 y2 y3
   unfold waypointlaw32_LsaOrder.j1
   repeat' first
   | (with_reducible exact ih0 _ _ _ _ _ _ _ _ _ _ _ _ _ _ _ _ _ _ _)
   | (with_reducible exact ih1 _ _ _ _)
   | (with_reducible exact lsa_Newer.mono _ _ _ _ _ _ _ _ _ _ _ _ _)
   | (with_reducible exact lsa_Same.mono _ _ _ _ _ _ _ _ _ _ _ _ _)
   | (with_reducible exact waypointref32_Valid.mono _ _ _ _ _ _ _)
   | (with_reducible exact LeO.refl _)
   | (with_reducible exact LeO.none _)
   | (with_reducible refine LeO.ite ?_ ?_)
   | (with_reducible refine LeO.bind ?_ (fun _ => ?_))
   | exact ih0 _ _ _ _ _ _ _ _ _ _ _ _ _ _ _ _ _ _ _
   | exact ih1 _ _ _ _
   | exact lsa_Newer.mono _ _ _ _ _ _ _ _ _ _ _ _ _
   | exact lsa_Same.mono _ _ _ _ _ _ _ _ _ _ _ _ _
   | exact waypointref32_Valid.mono _ _ _ _ _ _ _
   | exact LeO.none _
   | refine LeO.ite ?_ ?_
   | refine LeO.bind ?_ (fun _ => ?_)
theorem waypointlaw32_LsaOrder.mono : ∀ a0 a1 a2 a3 a4 a5 a6 a7 a8 a9 a10 a11 a12 a13 a14 a15 a16 a17 k, LeO (waypointlaw32_LsaOrder.f k a0 a1 a2 a3 a4 a5 a6 a7 a8 a9 a10 a11 a12 a13 a14 a15 a16 a17) (waypointlaw32_LsaOrder.f (k + 1) a0 a1 a2 a3 a4 a5 a6 a7 a8 a9 a10 a11 a12 a13 a14 a15 a16 a17) := by
 intro a0 a1 a2 a3 a4 a5 a6 a7 a8 a9 a10 a11 a12 a13 a14 a15 a16 a17 k
 obtain ⟨ih0, ih1⟩ := waypointlaw32_LsaOrder.mono_l k
 unfold waypointlaw32_LsaOrder.f
 repeat' first
   | (with_reducible exact ih0 _ _ _ _ _ _ _ _ _ _ _ _ _ _ _ _ _ _ _)
   | (with_reducible exact ih1 _ _ _ _)
   | (with_reducible exact lsa_Newer.mono _ _ _ _ _ _ _ _ _ _ _ _ _)
   | (with_reducible exact lsa_Same.mono _ _ _ _ _ _ _ _ _ _ _ _ _)
   | (with_reducible exact waypointref32_Valid.mono _ _ _ _ _ _ _)
   | (with_reducible exact LeO.refl _)
   | (with_reducible exact LeO.none _)
   | (with_reducible refine LeO.ite ?_ ?_)
   | (with_reducible refine LeO.bind ?_ (fun _ => ?_))
   | exact ih0 _ _ _ _ _ _ _ _ _ _ _ _ _ _ _ _ _ _ _
   | exact ih1 _ _ _ _
   | exact lsa_Newer.mono _ _ _ _ _ _ _ _ _ _ _ _ _
   | exact lsa_Same.mono _ _ _ _ _ _ _ _ _ _ _ _ _
   | exact waypointref32_Valid.mono _ _ _ _ _ _ _
   | exact LeO.none _
   | refine LeO.ite ?_ ?_
   | refine LeO.bind ?_ (fun _ => ?_)
def waypointlaw32_LsaOrder.T5 : Bool × List (List Nat × List Nat) := (true, [([], []), ([], []), ([0, 1], [0, 1]), ([], []), ([], []), ([3, 4, 2], [3, 4]), ([], []), ([], []), ([6, 7, 5], [6, 7]), ([2, 8, 0, 1, 2], [2]), ([5, 9, 0, 1, 2, 3, 4, 5, 9], [5]), ([8, 10, 0, 1, 2, 3, 4, 5, 6, 7, 8, 9, 10], [8])])
def waypointlaw32_LsaOrder.B5 : List Nat := [0, 0, 3, 0, 0, 31, 0, 0, 255, 511, 1023, 2047]
theorem waypointlaw32_LsaOrder.tab5 : rtab .any (opsOf Try.f9 5) = waypointlaw32_LsaOrder.T5 := by kernel_rfl
theorem waypointlaw32_LsaOrder.bits5 : waitsOk waypointlaw32_LsaOrder.T5.2 waypointlaw32_LsaOrder.B5 = true := by kernel_rfl
set_option maxHeartbeats 8000000 in
set_option maxRecDepth 100000 in
theorem waypointlaw32_LsaOrder.calls (k : Nat) (a0_0 : Int) (a0_1 : Int) (a0_2 : Int) (a0_3 : Bool) (A0_4 : Option Addr) (c0_4 : Nat) (l0_4 : List (S43)) (A0_5 : Option Addr) (c0_5 : Nat) (l0_5 : List (S56)) (a1_0 : Int) (a1_1 : Int) (a1_2 : Int) (a1_3 : Bool) (A1_4 : Option Addr) (c1_4 : Nat) (l1_4 : List (S43)) (A1_5 : Option Addr) (c1_5 : Nat) (l1_5 : List (S56)) (a2_0 : Int) (a2_1 : Int) (a2_2 : Int) (a2_3 : Bool) (A2_4 : Option Addr) (c2_4 : Nat) (l2_4 : List (S43)) (A2_5 : Option Addr) (c2_5 : Nat) (l2_5 : List (S56)) (r : Bool) (w : World) (hr0_4 : Kd.C k43 w A0_4 l0_4.length l0_4) (hc0_4 : l0_4.length ≤ c0_4) (hr0_5 : Kd.C k56 w A0_5 l0_5.length l0_5) (hc0_5 : l0_5.length ≤ c0_5) (hr1_4 : Kd.C k43 w A1_4 l1_4.length l1_4) (hc1_4 : l1_4.length ≤ c1_4) (hr1_5 : Kd.C k56 w A1_5 l1_5.length l1_5) (hc1_5 : l1_5.length ≤ c1_5) (hr2_4 : Kd.C k43 w A2_4 l2_4.length l2_4) (hc2_4 : l2_4.length ≤ c2_4) (hr2_5 : Kd.C k56 w A2_5 l2_5.length l2_5) (hc2_5 : l2_5.length ≤ c2_5) (h : waypointlaw32_LsaOrder.f k a0_0 a0_1 a0_2 a0_3 l0_4 l0_5 a1_0 a1_1 a1_2 a1_3 l1_4 l1_5 a2_0 a2_1 a2_2 a2_3 l2_4 l2_5 = some r) :
  Calls Try.prog 9 #[.agg #[.int .i64 a0_0, .int .i64 a0_1, .int .i64 a0_2, .bool a0_3, .slice A0_4 l0_4.length c0_4, .slice A0_5 l0_5.length c0_5], .agg #[.int .i64 a1_0, .int .i64 a1_1, .int .i64 a1_2, .bool a1_3, .slice A1_4 l1_4.length c1_4, .slice A1_5 l1_5.length c1_5], .agg #[.int .i64 a2_0, .int .i64 a2_1, .int .i64 a2_2, .bool a2_3, .slice A2_4 l2_4.length c2_4, .slice A2_5 l2_5.length c2_5]] w fun e w' => e = .returned (.bool r) ∧ Below w.heap.size w w' := by
 have hu25 := Try.underlying25
 have HR0_4 := Aside0.mk hr0_4
 have HC0_4 := Aside0.mk hc0_4
 clear hr0_4 hc0_4
 have HR0_5 := Aside0.mk hr0_5
 have HC0_5 := Aside0.mk hc0_5
 clear hr0_5 hc0_5
 have HR1_4 := Aside0.mk hr1_4
 have HC1_4 := Aside0.mk hc1_4
 clear hr1_4 hc1_4
 have HR1_5 := Aside0.mk hr1_5
 have HC1_5 := Aside0.mk hc1_5
 clear hr1_5 hc1_5
 have HR2_4 := Aside0.mk hr2_4
 have HC2_4 := Aside0.mk hc2_4
 clear hr2_4 hc2_4
 have HR2_5 := Aside0.mk hr2_5
 have HC2_5 := Aside0.mk hc2_5
 clear hr2_5 hc2_5
 have HB := Aside0.mk (Below.refl w.heap.size w)
 have H : ((waypointlaw32_awake.f).bind fun t302 => (if t302 = true then ((waypointref32_Few.f a0_0 a0_1 a0_2 a0_3 l0_4 l0_5).bind fun t303 => (if t303 = true then ((waypointref32_Few.f a1_0 a1_1 a1_2 a1_3 l1_4 l1_5).bind fun t304 => (if t304 = true then ((waypointref32_Few.f a2_0 a2_1 a2_2 a2_3 l2_4 l2_5).bind fun t305 => (if t305 = true then ((waypointref32_Valid.f k a0_0 a0_1 a0_2 a0_3 l0_4 l0_5).bind fun t306 => (if t306 = true then ((waypointref32_Valid.f k a1_0 a1_1 a1_2 a1_3 l1_4 l1_5).bind fun t307 => (if t307 = true then ((waypointref32_Valid.f k a2_0 a2_1 a2_2 a2_3 l2_4 l2_5).bind fun t308 => (waypointlaw32_LsaOrder.j0 k (!t308) a0_0 a0_1 a0_2 a0_3 l0_4 l0_5 a1_0 a1_1 a1_2 a1_3 l1_4 l1_5 a2_0 a2_1 a2_2 a2_3 l2_4 l2_5)) else (waypointlaw32_LsaOrder.j0 k true a0_0 a0_1 a0_2 a0_3 l0_4 l0_5 a1_0 a1_1 a1_2 a1_3 l1_4 l1_5 a2_0 a2_1 a2_2 a2_3 l2_4 l2_5))) else (waypointlaw32_LsaOrder.j0 k true a0_0 a0_1 a0_2 a0_3 l0_4 l0_5 a1_0 a1_1 a1_2 a1_3 l1_4 l1_5 a2_0 a2_1 a2_2 a2_3 l2_4 l2_5))) else (waypointlaw32_LsaOrder.j0 k true a0_0 a0_1 a0_2 a0_3 l0_4 l0_5 a1_0 a1_1 a1_2 a1_3 l1_4 l1_5 a2_0 a2_1 a2_2 a2_3 l2_4 l2_5))) else (waypointlaw32_LsaOrder.j0 k true a0_0 a0_1 a0_2 a0_3 l0_4 l0_5 a1_0 a1_1 a1_2 a1_3 l1_4 l1_5 a2_0 a2_1 a2_2 a2_3 l2_4 l2_5))) else (waypointlaw32_LsaOrder.j0 k true a0_0 a0_1 a0_2 a0_3 l0_4 l0_5 a1_0 a1_1 a1_2 a1_3 l1_4 l1_5 a2_0 a2_1 a2_2 a2_3 l2_4 l2_5))) else (none))) = some r := h
 clear h
 replace H := Option.bind_eq_some_iff.mp H
 obtain ⟨t302, A40, H⟩ := H
 replace H : (if t302 = true then ((waypointref32_Few.f a0_0 a0_1 a0_2 a0_3 l0_4 l0_5).bind fun t303 => (if t303 = true then ((waypointref32_Few.f a1_0 a1_1 a1_2 a1_3 l1_4 l1_5).bind fun t304 => (if t304 = true then ((waypointref32_Few.f a2_0 a2_1 a2_2 a2_3 l2_4 l2_5).bind fun t305 => (if t305 = true then ((waypointref32_Valid.f k a0_0 a0_1 a0_2 a0_3 l0_4 l0_5).bind fun t306 => (if t306 = true then ((waypointref32_Valid.f k a1_0 a1_1 a1_2 a1_3 l1_4 l1_5).bind fun t307 => (if t307 = true then ((waypointref32_Valid.f k a2_0 a2_1 a2_2 a2_3 l2_4 l2_5).bind fun t308 => (waypointlaw32_LsaOrder.j0 k (!t308) a0_0 a0_1 a0_2 a0_3 l0_4 l0_5 a1_0 a1_1 a1_2 a1_3 l1_4 l1_5 a2_0 a2_1 a2_2 a2_3 l2_4 l2_5)) else (waypointlaw32_LsaOrder.j0 k true a0_0 a0_1 a0_2 a0_3 l0_4 l0_5 a1_0 a1_1 a1_2 a1_3 l1_4 l1_5 a2_0 a2_1 a2_2 a2_3 l2_4 l2_5))) else (waypointlaw32_LsaOrder.j0 k true a0_0 a0_1 a0_2 a0_3 l0_4 l0_5 a1_0 a1_1 a1_2 a1_3 l1_4 l1_5 a2_0 a2_1 a2_2 a2_3 l2_4 l2_5))) else (waypointlaw32_LsaOrder.j0 k true a0_0 a0_1 a0_2 a0_3 l0_4 l0_5 a1_0 a1_1 a1_2 a1_3 l1_4 l1_5 a2_0 a2_1 a2_2 a2_3 l2_4 l2_5))) else (waypointlaw32_LsaOrder.j0 k true a0_0 a0_1 a0_2 a0_3 l0_4 l0_5 a1_0 a1_1 a1_2 a1_3 l1_4 l1_5 a2_0 a2_1 a2_2 a2_3 l2_4 l2_5))) else (waypointlaw32_LsaOrder.j0 k true a0_0 a0_1 a0_2 a0_3 l0_4 l0_5 a1_0 a1_1 a1_2 a1_3 l1_4 l1_5 a2_0 a2_1 a2_2 a2_3 l2_4 l2_5))) else (none)) = some r := H
 have A4 := Aside0.mk A40
 clear A40
 by_cases c5 : t302 = true
 ·subst c5
  have H1 : ((waypointref32_Few.f a0_0 a0_1 a0_2 a0_3 l0_4 l0_5).bind fun t303 => (if t303 = true then ((waypointref32_Few.f a1_0 a1_1 a1_2 a1_3 l1_4 l1_5).bind fun t304 => (if t304 = true then ((waypointref32_Few.f a2_0 a2_1 a2_2 a2_3 l2_4 l2_5).bind fun t305 => (if t305 = true then ((waypointref32_Valid.f k a0_0 a0_1 a0_2 a0_3 l0_4 l0_5).bind fun t306 => (if t306 = true then ((waypointref32_Valid.f k a1_0 a1_1 a1_2 a1_3 l1_4 l1_5).bind fun t307 => (if t307 = true then ((waypointref32_Valid.f k a2_0 a2_1 a2_2 a2_3 l2_4 l2_5).bind fun t308 => (waypointlaw32_LsaOrder.j0 k (!t308) a0_0 a0_1 a0_2 a0_3 l0_4 l0_5 a1_0 a1_1 a1_2 a1_3 l1_4 l1_5 a2_0 a2_1 a2_2 a2_3 l2_4 l2_5)) else (waypointlaw32_LsaOrder.j0 k true a0_0 a0_1 a0_2 a0_3 l0_4 l0_5 a1_0 a1_1 a1_2 a1_3 l1_4 l1_5 a2_0 a2_1 a2_2 a2_3 l2_4 l2_5))) else (waypointlaw32_LsaOrder.j0 k true a0_0 a0_1 a0_2 a0_3 l0_4 l0_5 a1_0 a1_1 a1_2 a1_3 l1_4 l1_5 a2_0 a2_1 a2_2 a2_3 l2_4 l2_5))) else (waypointlaw32_LsaOrder.j0 k true a0_0 a0_1 a0_2 a0_3 l0_4 l0_5 a1_0 a1_1 a1_2 a1_3 l1_4 l1_5 a2_0 a2_1 a2_2 a2_3 l2_4 l2_5))) else (waypointlaw32_LsaOrder.j0 k true a0_0 a0_1 a0_2 a0_3 l0_4 l0_5 a1_0 a1_1 a1_2 a1_3 l1_4 l1_5 a2_0 a2_1 a2_2 a2_3 l2_4 l2_5))) else (waypointlaw32_LsaOrder.j0 k true a0_0 a0_1 a0_2 a0_3 l0_4 l0_5 a1_0 a1_1 a1_2 a1_3 l1_4 l1_5 a2_0 a2_1 a2_2 a2_3 l2_4 l2_5))) = some r := by rw [if_pos rfl] at H; exact H
  clear H
  have H := H1
  clear H1
  have HC6 := Aside0.mk H
  clear H
  go_enter Try.func9, Try.ntmps9
  go_upto_region 3 with (first | ((with_reducible refine gate_dst (N := 3) rfl ?_); refine bx_ 3 #[.int .i64 a0_0, .int .i64 a0_1, .int .i64 a0_2, .bool a0_3, .slice A0_4 l0_4.length c0_4, .slice A0_5 l0_5.length c0_5] 25 rfl rfl ?hr ?_; (case hr => go_simp; try rfl); intro gb299 hg w7 hbox hb; have BK299 := Aside0.mk (hbox); have GW299 := gs_ HB hg; have GE299 := gs_ HB hg; replace HB := bs_ HB hb; clear hb hbox hg) | ((with_reducible refine gate_dst (N := 4) rfl ?_); refine bx_ 4 #[.int .i64 a1_0, .int .i64 a1_1, .int .i64 a1_2, .bool a1_3, .slice A1_4 l1_4.length c1_4, .slice A1_5 l1_5.length c1_5] 25 rfl rfl ?hr ?_; (case hr => go_simp; try rfl); intro gb300 hg w8 hbox hb; have BK300 := Aside0.mk (hbox); have GW300 := Aside0.mk ((by rw [hg]; exact (below_size (by repeat (first | (with_reducible first | exact HB.out | apply bU | apply bS GE299.out) | exact HB.out))) : w.heap.size ≤ gb300)); have GE300 := Aside0.mk ((by rw [hg]; exact (below_size (by repeat (first | (with_reducible first | exact HB.out | apply bU | apply bS GE299.out) | exact HB.out))) : w.heap.size ≤ gb300)); have NB299_300 := nl_ BK299 hg; have NB300_299 := ng_ BK299 hg; replace BK299 := bb_ BK299 hb; replace HB := Aside0.mk (below_step (by repeat (first | (with_reducible first | exact HB.out | apply bU | apply bS GE299.out) | exact HB.out)) hb); clear hb hbox hg) | ((with_reducible refine gate_dst (N := 5) rfl ?_); refine bx_ 5 #[.int .i64 a2_0, .int .i64 a2_1, .int .i64 a2_2, .bool a2_3, .slice A2_4 l2_4.length c2_4, .slice A2_5 l2_5.length c2_5] 25 rfl rfl ?hr ?_; (case hr => go_simp; try rfl); intro gb301 hg w9 hbox hb; have BK301 := Aside0.mk (hbox); have GW301 := Aside0.mk ((by rw [hg]; exact (below_size (by repeat (first | (with_reducible first | exact HB.out | apply bU | apply bS GE299.out | apply bS GE300.out) | exact HB.out))) : w.heap.size ≤ gb301)); have GE301 := Aside0.mk ((by rw [hg]; exact (below_size (by repeat (first | (with_reducible first | exact HB.out | apply bU | apply bS GE299.out | apply bS GE300.out) | exact HB.out))) : w.heap.size ≤ gb301)); have NB299_301 := nl_ BK299 hg; have NB301_299 := ng_ BK299 hg; have NB300_301 := nl_ BK300 hg; have NB301_300 := ng_ BK300 hg; replace BK299 := bb_ BK299 hb; replace BK300 := bb_ BK300 hb; replace HB := Aside0.mk (below_step (by repeat (first | (with_reducible first | exact HB.out | apply bU | apply bS GE299.out | apply bS GE300.out) | exact HB.out)) hb); clear hb hbox hg) | ((with_reducible refine gate_callee (f := 10) rfl ?_); refine goesL_ (some 10) rfl rfl Try.func10 (by kernel_rfl) rfl #[] rfl (by (try simp only [List.map_toArray, List.map_cons, List.map_nil]); first | done | rfl | (simp only [List.length_drop, List.length_take]; rfl)) ?_; (with_reducible refine (waypointlaw32_awake.calls  true _ A4.out).mono ?_); rintro e w10 ⟨rfl, hb⟩; refine ⟨_, rfl, ?_⟩; replace BK299 := bb_ BK299 hb; replace BK300 := bb_ BK300 hb; replace BK301 := bb_ BK301 hb; replace HB := Aside0.mk (below_step (by repeat (first | (with_reducible first | exact HB.out | apply bU | apply bS GE299.out | apply bS GE300.out | apply bS GE301.out) | exact HB.out)) hb); (try clear hb); (try clear hb2); (try clear hk); (try clear hi)))
  (try simp only [Act.put, List.setIfInBounds_toArray, List.set_cons_zero, List.set_cons_succ])
  go_cut [39] (fun v39 wc => ∃ (kq : Nat) (x39_5 : Bool), v39 = .bool x39_5 ∧ Aside0 (waypointlaw32_LsaOrder.j0 kq x39_5 a0_0 a0_1 a0_2 a0_3 l0_4 l0_5 a1_0 a1_1 a1_2 a1_3 l1_4 l1_5 a2_0 a2_1 a2_2 a2_3 l2_4 l2_5 = some r) ∧ Aside0 (kq ≤ k) ∧ Aside0 (wc.heap[gb299]? = some (.cells #[.int .i64 a0_0, .int .i64 a0_1, .int .i64 a0_2, .bool a0_3, (.slice A0_4 l0_4.length c0_4), (.slice A0_5 l0_5.length c0_5)] 25 (0, 0))) ∧ Aside0 (wc.heap[gb300]? = some (.cells #[.int .i64 a1_0, .int .i64 a1_1, .int .i64 a1_2, .bool a1_3, (.slice A1_4 l1_4.length c1_4), (.slice A1_5 l1_5.length c1_5)] 25 (0, 0))) ∧ Aside0 (wc.heap[gb301]? = some (.cells #[.int .i64 a2_0, .int .i64 a2_1, .int .i64 a2_2, .bool a2_3, (.slice A2_4 l2_4.length c2_4), (.slice A2_5 l2_5.length c2_5)] 25 (0, 0))) ∧ Aside0 (Below w.heap.size w wc))
  case first =>
   have H := HC6.out
   clear HC6
   replace H := Option.bind_eq_some_iff.mp H
   obtain ⟨t303, A110, H⟩ := H
   replace H : (if t303 = true then ((waypointref32_Few.f a1_0 a1_1 a1_2 a1_3 l1_4 l1_5).bind fun t304 => (if t304 = true then ((waypointref32_Few.f a2_0 a2_1 a2_2 a2_3 l2_4 l2_5).bind fun t305 => (if t305 = true then ((waypointref32_Valid.f k a0_0 a0_1 a0_2 a0_3 l0_4 l0_5).bind fun t306 => (if t306 = true then ((waypointref32_Valid.f k a1_0 a1_1 a1_2 a1_3 l1_4 l1_5).bind fun t307 => (if t307 = true then ((waypointref32_Valid.f k a2_0 a2_1 a2_2 a2_3 l2_4 l2_5).bind fun t308 => (waypointlaw32_LsaOrder.j0 k (!t308) a0_0 a0_1 a0_2 a0_3 l0_4 l0_5 a1_0 a1_1 a1_2 a1_3 l1_4 l1_5 a2_0 a2_1 a2_2 a2_3 l2_4 l2_5)) else (waypointlaw32_LsaOrder.j0 k true a0_0 a0_1 a0_2 a0_3 l0_4 l0_5 a1_0 a1_1 a1_2 a1_3 l1_4 l1_5 a2_0 a2_1 a2_2 a2_3 l2_4 l2_5))) else (waypointlaw32_LsaOrder.j0 k true a0_0 a0_1 a0_2 a0_3 l0_4 l0_5 a1_0 a1_1 a1_2 a1_3 l1_4 l1_5 a2_0 a2_1 a2_2 a2_3 l2_4 l2_5))) else (waypointlaw32_LsaOrder.j0 k true a0_0 a0_1 a0_2 a0_3 l0_4 l0_5 a1_0 a1_1 a1_2 a1_3 l1_4 l1_5 a2_0 a2_1 a2_2 a2_3 l2_4 l2_5))) else (waypointlaw32_LsaOrder.j0 k true a0_0 a0_1 a0_2 a0_3 l0_4 l0_5 a1_0 a1_1 a1_2 a1_3 l1_4 l1_5 a2_0 a2_1 a2_2 a2_3 l2_4 l2_5))) else (waypointlaw32_LsaOrder.j0 k true a0_0 a0_1 a0_2 a0_3 l0_4 l0_5 a1_0 a1_1 a1_2 a1_3 l1_4 l1_5 a2_0 a2_1 a2_2 a2_3 l2_4 l2_5)) = some r := H
   have A11 := Aside0.mk A110
   clear A110
   by_cases c12 : t303 = true
   ·subst c12
    have H1 : ((waypointref32_Few.f a1_0 a1_1 a1_2 a1_3 l1_4 l1_5).bind fun t304 => (if t304 = true then ((waypointref32_Few.f a2_0 a2_1 a2_2 a2_3 l2_4 l2_5).bind fun t305 => (if t305 = true then ((waypointref32_Valid.f k a0_0 a0_1 a0_2 a0_3 l0_4 l0_5).bind fun t306 => (if t306 = true then ((waypointref32_Valid.f k a1_0 a1_1 a1_2 a1_3 l1_4 l1_5).bind fun t307 => (if t307 = true then ((waypointref32_Valid.f k a2_0 a2_1 a2_2 a2_3 l2_4 l2_5).bind fun t308 => (waypointlaw32_LsaOrder.j0 k (!t308) a0_0 a0_1 a0_2 a0_3 l0_4 l0_5 a1_0 a1_1 a1_2 a1_3 l1_4 l1_5 a2_0 a2_1 a2_2 a2_3 l2_4 l2_5)) else (waypointlaw32_LsaOrder.j0 k true a0_0 a0_1 a0_2 a0_3 l0_4 l0_5 a1_0 a1_1 a1_2 a1_3 l1_4 l1_5 a2_0 a2_1 a2_2 a2_3 l2_4 l2_5))) else (waypointlaw32_LsaOrder.j0 k true a0_0 a0_1 a0_2 a0_3 l0_4 l0_5 a1_0 a1_1 a1_2 a1_3 l1_4 l1_5 a2_0 a2_1 a2_2 a2_3 l2_4 l2_5))) else (waypointlaw32_LsaOrder.j0 k true a0_0 a0_1 a0_2 a0_3 l0_4 l0_5 a1_0 a1_1 a1_2 a1_3 l1_4 l1_5 a2_0 a2_1 a2_2 a2_3 l2_4 l2_5))) else (waypointlaw32_LsaOrder.j0 k true a0_0 a0_1 a0_2 a0_3 l0_4 l0_5 a1_0 a1_1 a1_2 a1_3 l1_4 l1_5 a2_0 a2_1 a2_2 a2_3 l2_4 l2_5))) = some r := by rw [if_pos rfl] at H; exact H
    clear H
    have H := H1
    clear H1
    replace H := Option.bind_eq_some_iff.mp H
    obtain ⟨t304, A130, H⟩ := H
    replace H : (if t304 = true then ((waypointref32_Few.f a2_0 a2_1 a2_2 a2_3 l2_4 l2_5).bind fun t305 => (if t305 = true then ((waypointref32_Valid.f k a0_0 a0_1 a0_2 a0_3 l0_4 l0_5).bind fun t306 => (if t306 = true then ((waypointref32_Valid.f k a1_0 a1_1 a1_2 a1_3 l1_4 l1_5).bind fun t307 => (if t307 = true then ((waypointref32_Valid.f k a2_0 a2_1 a2_2 a2_3 l2_4 l2_5).bind fun t308 => (waypointlaw32_LsaOrder.j0 k (!t308) a0_0 a0_1 a0_2 a0_3 l0_4 l0_5 a1_0 a1_1 a1_2 a1_3 l1_4 l1_5 a2_0 a2_1 a2_2 a2_3 l2_4 l2_5)) else (waypointlaw32_LsaOrder.j0 k true a0_0 a0_1 a0_2 a0_3 l0_4 l0_5 a1_0 a1_1 a1_2 a1_3 l1_4 l1_5 a2_0 a2_1 a2_2 a2_3 l2_4 l2_5))) else (waypointlaw32_LsaOrder.j0 k true a0_0 a0_1 a0_2 a0_3 l0_4 l0_5 a1_0 a1_1 a1_2 a1_3 l1_4 l1_5 a2_0 a2_1 a2_2 a2_3 l2_4 l2_5))) else (waypointlaw32_LsaOrder.j0 k true a0_0 a0_1 a0_2 a0_3 l0_4 l0_5 a1_0 a1_1 a1_2 a1_3 l1_4 l1_5 a2_0 a2_1 a2_2 a2_3 l2_4 l2_5))) else (waypointlaw32_LsaOrder.j0 k true a0_0 a0_1 a0_2 a0_3 l0_4 l0_5 a1_0 a1_1 a1_2 a1_3 l1_4 l1_5 a2_0 a2_1 a2_2 a2_3 l2_4 l2_5)) = some r := H
    have A13 := Aside0.mk A130
    clear A130
    by_cases c14 : t304 = true
    ·subst c14
     have H1 : ((waypointref32_Few.f a2_0 a2_1 a2_2 a2_3 l2_4 l2_5).bind fun t305 => (if t305 = true then ((waypointref32_Valid.f k a0_0 a0_1 a0_2 a0_3 l0_4 l0_5).bind fun t306 => (if t306 = true then ((waypointref32_Valid.f k a1_0 a1_1 a1_2 a1_3 l1_4 l1_5).bind fun t307 => (if t307 = true then ((waypointref32_Valid.f k a2_0 a2_1 a2_2 a2_3 l2_4 l2_5).bind fun t308 => (waypointlaw32_LsaOrder.j0 k (!t308) a0_0 a0_1 a0_2 a0_3 l0_4 l0_5 a1_0 a1_1 a1_2 a1_3 l1_4 l1_5 a2_0 a2_1 a2_2 a2_3 l2_4 l2_5)) else (waypointlaw32_LsaOrder.j0 k true a0_0 a0_1 a0_2 a0_3 l0_4 l0_5 a1_0 a1_1 a1_2 a1_3 l1_4 l1_5 a2_0 a2_1 a2_2 a2_3 l2_4 l2_5))) else (waypointlaw32_LsaOrder.j0 k true a0_0 a0_1 a0_2 a0_3 l0_4 l0_5 a1_0 a1_1 a1_2 a1_3 l1_4 l1_5 a2_0 a2_1 a2_2 a2_3 l2_4 l2_5))) else (waypointlaw32_LsaOrder.j0 k true a0_0 a0_1 a0_2 a0_3 l0_4 l0_5 a1_0 a1_1 a1_2 a1_3 l1_4 l1_5 a2_0 a2_1 a2_2 a2_3 l2_4 l2_5))) = some r := by rw [if_pos rfl] at H; exact H
     clear H
     have H := H1
     clear H1
     replace H := Option.bind_eq_some_iff.mp H
     obtain ⟨t305, A150, H⟩ := H
     replace H : (if t305 = true then ((waypointref32_Valid.f k a0_0 a0_1 a0_2 a0_3 l0_4 l0_5).bind fun t306 => (if t306 = true then ((waypointref32_Valid.f k a1_0 a1_1 a1_2 a1_3 l1_4 l1_5).bind fun t307 => (if t307 = true then ((waypointref32_Valid.f k a2_0 a2_1 a2_2 a2_3 l2_4 l2_5).bind fun t308 => (waypointlaw32_LsaOrder.j0 k (!t308) a0_0 a0_1 a0_2 a0_3 l0_4 l0_5 a1_0 a1_1 a1_2 a1_3 l1_4 l1_5 a2_0 a2_1 a2_2 a2_3 l2_4 l2_5)) else (waypointlaw32_LsaOrder.j0 k true a0_0 a0_1 a0_2 a0_3 l0_4 l0_5 a1_0 a1_1 a1_2 a1_3 l1_4 l1_5 a2_0 a2_1 a2_2 a2_3 l2_4 l2_5))) else (waypointlaw32_LsaOrder.j0 k true a0_0 a0_1 a0_2 a0_3 l0_4 l0_5 a1_0 a1_1 a1_2 a1_3 l1_4 l1_5 a2_0 a2_1 a2_2 a2_3 l2_4 l2_5))) else (waypointlaw32_LsaOrder.j0 k true a0_0 a0_1 a0_2 a0_3 l0_4 l0_5 a1_0 a1_1 a1_2 a1_3 l1_4 l1_5 a2_0 a2_1 a2_2 a2_3 l2_4 l2_5)) = some r := H
     have A15 := Aside0.mk A150
     clear A150
     by_cases c16 : t305 = true
     ·subst c16
      have H1 : ((waypointref32_Valid.f k a0_0 a0_1 a0_2 a0_3 l0_4 l0_5).bind fun t306 => (if t306 = true then ((waypointref32_Valid.f k a1_0 a1_1 a1_2 a1_3 l1_4 l1_5).bind fun t307 => (if t307 = true then ((waypointref32_Valid.f k a2_0 a2_1 a2_2 a2_3 l2_4 l2_5).bind fun t308 => (waypointlaw32_LsaOrder.j0 k (!t308) a0_0 a0_1 a0_2 a0_3 l0_4 l0_5 a1_0 a1_1 a1_2 a1_3 l1_4 l1_5 a2_0 a2_1 a2_2 a2_3 l2_4 l2_5)) else (waypointlaw32_LsaOrder.j0 k true a0_0 a0_1 a0_2 a0_3 l0_4 l0_5 a1_0 a1_1 a1_2 a1_3 l1_4 l1_5 a2_0 a2_1 a2_2 a2_3 l2_4 l2_5))) else (waypointlaw32_LsaOrder.j0 k true a0_0 a0_1 a0_2 a0_3 l0_4 l0_5 a1_0 a1_1 a1_2 a1_3 l1_4 l1_5 a2_0 a2_1 a2_2 a2_3 l2_4 l2_5))) = some r := by rw [if_pos rfl] at H; exact H
      clear H
      have H := H1
      clear H1
      replace H := Option.bind_eq_some_iff.mp H
      obtain ⟨t306, A170, H⟩ := H
      replace H : (if t306 = true then ((waypointref32_Valid.f k a1_0 a1_1 a1_2 a1_3 l1_4 l1_5).bind fun t307 => (if t307 = true then ((waypointref32_Valid.f k a2_0 a2_1 a2_2 a2_3 l2_4 l2_5).bind fun t308 => (waypointlaw32_LsaOrder.j0 k (!t308) a0_0 a0_1 a0_2 a0_3 l0_4 l0_5 a1_0 a1_1 a1_2 a1_3 l1_4 l1_5 a2_0 a2_1 a2_2 a2_3 l2_4 l2_5)) else (waypointlaw32_LsaOrder.j0 k true a0_0 a0_1 a0_2 a0_3 l0_4 l0_5 a1_0 a1_1 a1_2 a1_3 l1_4 l1_5 a2_0 a2_1 a2_2 a2_3 l2_4 l2_5))) else (waypointlaw32_LsaOrder.j0 k true a0_0 a0_1 a0_2 a0_3 l0_4 l0_5 a1_0 a1_1 a1_2 a1_3 l1_4 l1_5 a2_0 a2_1 a2_2 a2_3 l2_4 l2_5)) = some r := H
      have A17 := Aside0.mk A170
      clear A170
      by_cases c18 : t306 = true
      ·subst c18
       have H1 : ((waypointref32_Valid.f k a1_0 a1_1 a1_2 a1_3 l1_4 l1_5).bind fun t307 => (if t307 = true then ((waypointref32_Valid.f k a2_0 a2_1 a2_2 a2_3 l2_4 l2_5).bind fun t308 => (waypointlaw32_LsaOrder.j0 k (!t308) a0_0 a0_1 a0_2 a0_3 l0_4 l0_5 a1_0 a1_1 a1_2 a1_3 l1_4 l1_5 a2_0 a2_1 a2_2 a2_3 l2_4 l2_5)) else (waypointlaw32_LsaOrder.j0 k true a0_0 a0_1 a0_2 a0_3 l0_4 l0_5 a1_0 a1_1 a1_2 a1_3 l1_4 l1_5 a2_0 a2_1 a2_2 a2_3 l2_4 l2_5))) = some r := by rw [if_pos rfl] at H; exact H
       clear H
       have H := H1
       clear H1
       replace H := Option.bind_eq_some_iff.mp H
       obtain ⟨t307, A190, H⟩ := H
       replace H : (if t307 = true then ((waypointref32_Valid.f k a2_0 a2_1 a2_2 a2_3 l2_4 l2_5).bind fun t308 => (waypointlaw32_LsaOrder.j0 k (!t308) a0_0 a0_1 a0_2 a0_3 l0_4 l0_5 a1_0 a1_1 a1_2 a1_3 l1_4 l1_5 a2_0 a2_1 a2_2 a2_3 l2_4 l2_5)) else (waypointlaw32_LsaOrder.j0 k true a0_0 a0_1 a0_2 a0_3 l0_4 l0_5 a1_0 a1_1 a1_2 a1_3 l1_4 l1_5 a2_0 a2_1 a2_2 a2_3 l2_4 l2_5)) = some r := H
       have A19 := Aside0.mk A190
       clear A190
       by_cases c20 : t307 = true
       ·subst c20
        have H1 : ((waypointref32_Valid.f k a2_0 a2_1 a2_2 a2_3 l2_4 l2_5).bind fun t308 => (waypointlaw32_LsaOrder.j0 k (!t308) a0_0 a0_1 a0_2 a0_3 l0_4 l0_5 a1_0 a1_1 a1_2 a1_3 l1_4 l1_5 a2_0 a2_1 a2_2 a2_3 l2_4 l2_5)) = some r := by rw [if_pos rfl] at H; exact H
        clear H
        have H := H1
        clear H1
        replace H := Option.bind_eq_some_iff.mp H
        obtain ⟨t308, A210, H⟩ := H
        replace H : (waypointlaw32_LsaOrder.j0 k (!t308) a0_0 a0_1 a0_2 a0_3 l0_4 l0_5 a1_0 a1_1 a1_2 a1_3 l1_4 l1_5 a2_0 a2_1 a2_2 a2_3 l2_4 l2_5) = some r := H
        have A21 := Aside0.mk A210
        clear A210
        have H' := Aside0.mk H
        clear H
        have hnb22 := NB299_300.out
        have hnc22 := NB300_299.out
        have hnb23 := NB299_301.out
        have hnc23 := NB301_299.out
        obtain ⟨hcz24_0, hcz24_1, hcz24_2, hcz24_3, hcz24_4, hcz24_5, hfz24_0, hfz24_1, hfz24_2, hfz24_3, hfz24_4, hfz24_5⟩ := c6_ BK299
        go_wp2_with (first | ((with_reducible refine gate_callee (f := 11) rfl ?_); refine goesL_ (some 13) rfl rfl Try.func11 (by kernel_rfl) rfl #[.agg #[.int .i64 a0_0, .int .i64 a0_1, .int .i64 a0_2, .bool a0_3, .slice A0_4 l0_4.length c0_4, .slice A0_5 l0_5.length c0_5]] rfl (by (try simp only [List.map_toArray, List.map_cons, List.map_nil]); first | done | rfl | (simp only [List.length_drop, List.length_take]; rfl)) ?_; (with_reducible refine (waypointref32_Few.calls a0_0 a0_1 a0_2 a0_3 _ _ l0_4 _ _ l0_5 true _ ?side1 ?side2 ?side3 ?side4 A11.out).mono ?_); (case side1 => exact cs_ HR0_4 HB); (case side2 => exact HC0_4.out); (case side3 => exact cs_ HR0_5 HB); (case side4 => exact HC0_5.out); rintro e w25 ⟨rfl, hb⟩; refine ⟨_, rfl, ?_⟩; replace BK299 := bb_ BK299 hb; replace BK300 := bb_ BK300 hb; replace BK301 := bb_ BK301 hb; replace HB := Aside0.mk (below_step (by repeat (first | (with_reducible first | exact HB.out | apply bU | apply bS GE299.out | apply bS GE300.out | apply bS GE301.out) | exact HB.out)) hb); (try clear hb); (try clear hb2); (try clear hk); (try clear hi); have hnb26 := NB300_301.out; have hnc26 := NB301_300.out; obtain ⟨hcz27_0, hcz27_1, hcz27_2, hcz27_3, hcz27_4, hcz27_5, hfz27_0, hfz27_1, hfz27_2, hfz27_3, hfz27_4, hfz27_5⟩ := c6_ BK300) | (go_at_call 11; (with_reducible refine (waypointref32_Few.calls a1_0 a1_1 a1_2 a1_3 _ _ l1_4 _ _ l1_5 true _ ?side1 ?side2 ?side3 ?side4 A13.out).mono ?_); (case side1 => exact cs_ HR1_4 HB); (case side2 => exact HC1_4.out); (case side3 => exact cs_ HR1_5 HB); (case side4 => exact HC1_5.out); rintro e w28 ⟨rfl, hb⟩; replace BK299 := bb_ BK299 hb; replace BK300 := bb_ BK300 hb; replace BK301 := bb_ BK301 hb; replace HB := Aside0.mk (below_step (by repeat (first | (with_reducible first | exact HB.out | apply bU | apply bS GE299.out | apply bS GE300.out | apply bS GE301.out) | exact HB.out)) hb); (try clear hb); (try clear hb2); (try clear hk); (try clear hi); obtain ⟨hcz29_0, hcz29_1, hcz29_2, hcz29_3, hcz29_4, hcz29_5, hfz29_0, hfz29_1, hfz29_2, hfz29_3, hfz29_4, hfz29_5⟩ := c6_ BK301) | (go_at_call 11; (with_reducible refine (waypointref32_Few.calls a2_0 a2_1 a2_2 a2_3 _ _ l2_4 _ _ l2_5 true _ ?side1 ?side2 ?side3 ?side4 A15.out).mono ?_); (case side1 => exact cs_ HR2_4 HB); (case side2 => exact HC2_4.out); (case side3 => exact cs_ HR2_5 HB); (case side4 => exact HC2_5.out); rintro e w30 ⟨rfl, hb⟩; replace BK299 := bb_ BK299 hb; replace BK300 := bb_ BK300 hb; replace BK301 := bb_ BK301 hb; replace HB := Aside0.mk (below_step (by repeat (first | (with_reducible first | exact HB.out | apply bU | apply bS GE299.out | apply bS GE300.out | apply bS GE301.out) | exact HB.out)) hb); (try clear hb); (try clear hb2); (try clear hk); (try clear hi); obtain ⟨hcz31_0, hcz31_1, hcz31_2, hcz31_3, hcz31_4, hcz31_5, hfz31_0, hfz31_1, hfz31_2, hfz31_3, hfz31_4, hfz31_5⟩ := c6_ BK299) | (go_at_call 15; (with_reducible refine (waypointref32_Valid.calls k a0_0 a0_1 a0_2 a0_3 _ _ l0_4 _ _ l0_5 true _ ?side1 ?side2 ?side3 ?side4 A17.out).mono ?_); (case side1 => exact cs_ HR0_4 HB); (case side2 => exact HC0_4.out); (case side3 => exact cs_ HR0_5 HB); (case side4 => exact HC0_5.out); rintro e w32 ⟨rfl, hb⟩; replace BK299 := bb_ BK299 hb; replace BK300 := bb_ BK300 hb; replace BK301 := bb_ BK301 hb; replace HB := Aside0.mk (below_step (by repeat (first | (with_reducible first | exact HB.out | apply bU | apply bS GE299.out | apply bS GE300.out | apply bS GE301.out) | exact HB.out)) hb); (try clear hb); (try clear hb2); (try clear hk); (try clear hi); obtain ⟨hcz33_0, hcz33_1, hcz33_2, hcz33_3, hcz33_4, hcz33_5, hfz33_0, hfz33_1, hfz33_2, hfz33_3, hfz33_4, hfz33_5⟩ := c6_ BK300) | (go_at_call 15; (with_reducible refine (waypointref32_Valid.calls k a1_0 a1_1 a1_2 a1_3 _ _ l1_4 _ _ l1_5 true _ ?side1 ?side2 ?side3 ?side4 A19.out).mono ?_); (case side1 => exact cs_ HR1_4 HB); (case side2 => exact HC1_4.out); (case side3 => exact cs_ HR1_5 HB); (case side4 => exact HC1_5.out); rintro e w34 ⟨rfl, hb⟩; replace BK299 := bb_ BK299 hb; replace BK300 := bb_ BK300 hb; replace BK301 := bb_ BK301 hb; replace HB := Aside0.mk (below_step (by repeat (first | (with_reducible first | exact HB.out | apply bU | apply bS GE299.out | apply bS GE300.out | apply bS GE301.out) | exact HB.out)) hb); (try clear hb); (try clear hb2); (try clear hk); (try clear hi); obtain ⟨hcz35_0, hcz35_1, hcz35_2, hcz35_3, hcz35_4, hcz35_5, hfz35_0, hfz35_1, hfz35_2, hfz35_3, hfz35_4, hfz35_5⟩ := c6_ BK301) | (go_at_call 15; (with_reducible refine (waypointref32_Valid.calls k a2_0 a2_1 a2_2 a2_3 _ _ l2_4 _ _ l2_5 t308 _ ?side1 ?side2 ?side3 ?side4 A21.out).mono ?_); (case side1 => exact cs_ HR2_4 HB); (case side2 => exact HC2_4.out); (case side3 => exact cs_ HR2_5 HB); (case side4 => exact HC2_5.out); rintro e w36 ⟨rfl, hb⟩; replace BK299 := bb_ BK299 hb; replace BK300 := bb_ BK300 hb; replace BK301 := bb_ BK301 hb; replace HB := Aside0.mk (below_step (by repeat (first | (with_reducible first | exact HB.out | apply bU | apply bS GE299.out | apply bS GE300.out | apply bS GE301.out) | exact HB.out)) hb); (try clear hb); (try clear hb2); (try clear hk); (try clear hi)))
        go_meet
        case rel => exact ⟨_, (!t308), (by first | rfl | (simp; done) | (simp [*]; done)), H', ⟨by first | omega | exact Nat.le_refl _⟩, ⟨kb_ BK299⟩, ⟨kb_ BK300⟩, ⟨kb_ BK301⟩, ⟨by repeat (first | (with_reducible first | exact HB.out | apply bU | apply bS GE299.out | apply bS GE300.out | apply bS GE301.out) | exact HB.out)⟩⟩
       ·replace c20 := Bool.eq_false_iff.mpr c20
        subst c20
        have H1 : (waypointlaw32_LsaOrder.j0 k true a0_0 a0_1 a0_2 a0_3 l0_4 l0_5 a1_0 a1_1 a1_2 a1_3 l1_4 l1_5 a2_0 a2_1 a2_2 a2_3 l2_4 l2_5) = some r := by rw [if_neg (show ¬ (false = true) by decide)] at H; exact H
        clear H
        have H := H1
        clear H1
        have H' := Aside0.mk H
        clear H
        have hnb37 := NB299_300.out
        have hnc37 := NB300_299.out
        have hnb38 := NB299_301.out
        have hnc38 := NB301_299.out
        obtain ⟨hcz39_0, hcz39_1, hcz39_2, hcz39_3, hcz39_4, hcz39_5, hfz39_0, hfz39_1, hfz39_2, hfz39_3, hfz39_4, hfz39_5⟩ := c6_ BK299
        go_wp2_with (first | ((with_reducible refine gate_callee (f := 11) rfl ?_); refine goesL_ (some 13) rfl rfl Try.func11 (by kernel_rfl) rfl #[.agg #[.int .i64 a0_0, .int .i64 a0_1, .int .i64 a0_2, .bool a0_3, .slice A0_4 l0_4.length c0_4, .slice A0_5 l0_5.length c0_5]] rfl (by (try simp only [List.map_toArray, List.map_cons, List.map_nil]); first | done | rfl | (simp only [List.length_drop, List.length_take]; rfl)) ?_; (with_reducible refine (waypointref32_Few.calls a0_0 a0_1 a0_2 a0_3 _ _ l0_4 _ _ l0_5 true _ ?side1 ?side2 ?side3 ?side4 A11.out).mono ?_); (case side1 => exact cs_ HR0_4 HB); (case side2 => exact HC0_4.out); (case side3 => exact cs_ HR0_5 HB); (case side4 => exact HC0_5.out); rintro e w40 ⟨rfl, hb⟩; refine ⟨_, rfl, ?_⟩; replace BK299 := bb_ BK299 hb; replace BK300 := bb_ BK300 hb; replace BK301 := bb_ BK301 hb; replace HB := Aside0.mk (below_step (by repeat (first | (with_reducible first | exact HB.out | apply bU | apply bS GE299.out | apply bS GE300.out | apply bS GE301.out) | exact HB.out)) hb); (try clear hb); (try clear hb2); (try clear hk); (try clear hi); have hnb41 := NB300_301.out; have hnc41 := NB301_300.out; obtain ⟨hcz42_0, hcz42_1, hcz42_2, hcz42_3, hcz42_4, hcz42_5, hfz42_0, hfz42_1, hfz42_2, hfz42_3, hfz42_4, hfz42_5⟩ := c6_ BK300) | (go_at_call 11; (with_reducible refine (waypointref32_Few.calls a1_0 a1_1 a1_2 a1_3 _ _ l1_4 _ _ l1_5 true _ ?side1 ?side2 ?side3 ?side4 A13.out).mono ?_); (case side1 => exact cs_ HR1_4 HB); (case side2 => exact HC1_4.out); (case side3 => exact cs_ HR1_5 HB); (case side4 => exact HC1_5.out); rintro e w43 ⟨rfl, hb⟩; replace BK299 := bb_ BK299 hb; replace BK300 := bb_ BK300 hb; replace BK301 := bb_ BK301 hb; replace HB := Aside0.mk (below_step (by repeat (first | (with_reducible first | exact HB.out | apply bU | apply bS GE299.out | apply bS GE300.out | apply bS GE301.out) | exact HB.out)) hb); (try clear hb); (try clear hb2); (try clear hk); (try clear hi); obtain ⟨hcz44_0, hcz44_1, hcz44_2, hcz44_3, hcz44_4, hcz44_5, hfz44_0, hfz44_1, hfz44_2, hfz44_3, hfz44_4, hfz44_5⟩ := c6_ BK301) | (go_at_call 11; (with_reducible refine (waypointref32_Few.calls a2_0 a2_1 a2_2 a2_3 _ _ l2_4 _ _ l2_5 true _ ?side1 ?side2 ?side3 ?side4 A15.out).mono ?_); (case side1 => exact cs_ HR2_4 HB); (case side2 => exact HC2_4.out); (case side3 => exact cs_ HR2_5 HB); (case side4 => exact HC2_5.out); rintro e w45 ⟨rfl, hb⟩; replace BK299 := bb_ BK299 hb; replace BK300 := bb_ BK300 hb; replace BK301 := bb_ BK301 hb; replace HB := Aside0.mk (below_step (by repeat (first | (with_reducible first | exact HB.out | apply bU | apply bS GE299.out | apply bS GE300.out | apply bS GE301.out) | exact HB.out)) hb); (try clear hb); (try clear hb2); (try clear hk); (try clear hi); obtain ⟨hcz46_0, hcz46_1, hcz46_2, hcz46_3, hcz46_4, hcz46_5, hfz46_0, hfz46_1, hfz46_2, hfz46_3, hfz46_4, hfz46_5⟩ := c6_ BK299) | (go_at_call 15; (with_reducible refine (waypointref32_Valid.calls k a0_0 a0_1 a0_2 a0_3 _ _ l0_4 _ _ l0_5 true _ ?side1 ?side2 ?side3 ?side4 A17.out).mono ?_); (case side1 => exact cs_ HR0_4 HB); (case side2 => exact HC0_4.out); (case side3 => exact cs_ HR0_5 HB); (case side4 => exact HC0_5.out); rintro e w47 ⟨rfl, hb⟩; replace BK299 := bb_ BK299 hb; replace BK300 := bb_ BK300 hb; replace BK301 := bb_ BK301 hb; replace HB := Aside0.mk (below_step (by repeat (first | (with_reducible first | exact HB.out | apply bU | apply bS GE299.out | apply bS GE300.out | apply bS GE301.out) | exact HB.out)) hb); (try clear hb); (try clear hb2); (try clear hk); (try clear hi); obtain ⟨hcz48_0, hcz48_1, hcz48_2, hcz48_3, hcz48_4, hcz48_5, hfz48_0, hfz48_1, hfz48_2, hfz48_3, hfz48_4, hfz48_5⟩ := c6_ BK300) | (go_at_call 15; (with_reducible refine (waypointref32_Valid.calls k a1_0 a1_1 a1_2 a1_3 _ _ l1_4 _ _ l1_5 false _ ?side1 ?side2 ?side3 ?side4 A19.out).mono ?_); (case side1 => exact cs_ HR1_4 HB); (case side2 => exact HC1_4.out); (case side3 => exact cs_ HR1_5 HB); (case side4 => exact HC1_5.out); rintro e w49 ⟨rfl, hb⟩; replace BK299 := bb_ BK299 hb; replace BK300 := bb_ BK300 hb; replace BK301 := bb_ BK301 hb; replace HB := Aside0.mk (below_step (by repeat (first | (with_reducible first | exact HB.out | apply bU | apply bS GE299.out | apply bS GE300.out | apply bS GE301.out) | exact HB.out)) hb); (try clear hb); (try clear hb2); (try clear hk); (try clear hi)))
        go_meet
        case rel => exact ⟨_, (true), (by first | rfl | (simp; done) | (simp [*]; done)), H', ⟨by first | omega | exact Nat.le_refl _⟩, ⟨kb_ BK299⟩, ⟨kb_ BK300⟩, ⟨kb_ BK301⟩, ⟨by repeat (first | (with_reducible first | exact HB.out | apply bU | apply bS GE299.out | apply bS GE300.out | apply bS GE301.out) | exact HB.out)⟩⟩
      ·replace c18 := Bool.eq_false_iff.mpr c18
       subst c18
       have H1 : (waypointlaw32_LsaOrder.j0 k true a0_0 a0_1 a0_2 a0_3 l0_4 l0_5 a1_0 a1_1 a1_2 a1_3 l1_4 l1_5 a2_0 a2_1 a2_2 a2_3 l2_4 l2_5) = some r := by rw [if_neg (show ¬ (false = true) by decide)] at H; exact H
       clear H
       have H := H1
       clear H1
       have H' := Aside0.mk H
       clear H
       have hnb50 := NB299_300.out
       have hnc50 := NB300_299.out
       have hnb51 := NB299_301.out
       have hnc51 := NB301_299.out
       obtain ⟨hcz52_0, hcz52_1, hcz52_2, hcz52_3, hcz52_4, hcz52_5, hfz52_0, hfz52_1, hfz52_2, hfz52_3, hfz52_4, hfz52_5⟩ := c6_ BK299
       go_wp2_with (first | ((with_reducible refine gate_callee (f := 11) rfl ?_); refine goesL_ (some 13) rfl rfl Try.func11 (by kernel_rfl) rfl #[.agg #[.int .i64 a0_0, .int .i64 a0_1, .int .i64 a0_2, .bool a0_3, .slice A0_4 l0_4.length c0_4, .slice A0_5 l0_5.length c0_5]] rfl (by (try simp only [List.map_toArray, List.map_cons, List.map_nil]); first | done | rfl | (simp only [List.length_drop, List.length_take]; rfl)) ?_; (with_reducible refine (waypointref32_Few.calls a0_0 a0_1 a0_2 a0_3 _ _ l0_4 _ _ l0_5 true _ ?side1 ?side2 ?side3 ?side4 A11.out).mono ?_); (case side1 => exact cs_ HR0_4 HB); (case side2 => exact HC0_4.out); (case side3 => exact cs_ HR0_5 HB); (case side4 => exact HC0_5.out); rintro e w53 ⟨rfl, hb⟩; refine ⟨_, rfl, ?_⟩; replace BK299 := bb_ BK299 hb; replace BK300 := bb_ BK300 hb; replace BK301 := bb_ BK301 hb; replace HB := Aside0.mk (below_step (by repeat (first | (with_reducible first | exact HB.out | apply bU | apply bS GE299.out | apply bS GE300.out | apply bS GE301.out) | exact HB.out)) hb); (try clear hb); (try clear hb2); (try clear hk); (try clear hi); have hnb54 := NB300_301.out; have hnc54 := NB301_300.out; obtain ⟨hcz55_0, hcz55_1, hcz55_2, hcz55_3, hcz55_4, hcz55_5, hfz55_0, hfz55_1, hfz55_2, hfz55_3, hfz55_4, hfz55_5⟩ := c6_ BK300) | (go_at_call 11; (with_reducible refine (waypointref32_Few.calls a1_0 a1_1 a1_2 a1_3 _ _ l1_4 _ _ l1_5 true _ ?side1 ?side2 ?side3 ?side4 A13.out).mono ?_); (case side1 => exact cs_ HR1_4 HB); (case side2 => exact HC1_4.out); (case side3 => exact cs_ HR1_5 HB); (case side4 => exact HC1_5.out); rintro e w56 ⟨rfl, hb⟩; replace BK299 := bb_ BK299 hb; replace BK300 := bb_ BK300 hb; replace BK301 := bb_ BK301 hb; replace HB := Aside0.mk (below_step (by repeat (first | (with_reducible first | exact HB.out | apply bU | apply bS GE299.out | apply bS GE300.out | apply bS GE301.out) | exact HB.out)) hb); (try clear hb); (try clear hb2); (try clear hk); (try clear hi); obtain ⟨hcz57_0, hcz57_1, hcz57_2, hcz57_3, hcz57_4, hcz57_5, hfz57_0, hfz57_1, hfz57_2, hfz57_3, hfz57_4, hfz57_5⟩ := c6_ BK301) | (go_at_call 11; (with_reducible refine (waypointref32_Few.calls a2_0 a2_1 a2_2 a2_3 _ _ l2_4 _ _ l2_5 true _ ?side1 ?side2 ?side3 ?side4 A15.out).mono ?_); (case side1 => exact cs_ HR2_4 HB); (case side2 => exact HC2_4.out); (case side3 => exact cs_ HR2_5 HB); (case side4 => exact HC2_5.out); rintro e w58 ⟨rfl, hb⟩; replace BK299 := bb_ BK299 hb; replace BK300 := bb_ BK300 hb; replace BK301 := bb_ BK301 hb; replace HB := Aside0.mk (below_step (by repeat (first | (with_reducible first | exact HB.out | apply bU | apply bS GE299.out | apply bS GE300.out | apply bS GE301.out) | exact HB.out)) hb); (try clear hb); (try clear hb2); (try clear hk); (try clear hi); obtain ⟨hcz59_0, hcz59_1, hcz59_2, hcz59_3, hcz59_4, hcz59_5, hfz59_0, hfz59_1, hfz59_2, hfz59_3, hfz59_4, hfz59_5⟩ := c6_ BK299) | (go_at_call 15; (with_reducible refine (waypointref32_Valid.calls k a0_0 a0_1 a0_2 a0_3 _ _ l0_4 _ _ l0_5 false _ ?side1 ?side2 ?side3 ?side4 A17.out).mono ?_); (case side1 => exact cs_ HR0_4 HB); (case side2 => exact HC0_4.out); (case side3 => exact cs_ HR0_5 HB); (case side4 => exact HC0_5.out); rintro e w60 ⟨rfl, hb⟩; replace BK299 := bb_ BK299 hb; replace BK300 := bb_ BK300 hb; replace BK301 := bb_ BK301 hb; replace HB := Aside0.mk (below_step (by repeat (first | (with_reducible first | exact HB.out | apply bU | apply bS GE299.out | apply bS GE300.out | apply bS GE301.out) | exact HB.out)) hb); (try clear hb); (try clear hb2); (try clear hk); (try clear hi)))
       go_meet
       case rel => exact ⟨_, (true), (by first | rfl | (simp; done) | (simp [*]; done)), H', ⟨by first | omega | exact Nat.le_refl _⟩, ⟨kb_ BK299⟩, ⟨kb_ BK300⟩, ⟨kb_ BK301⟩, ⟨by repeat (first | (with_reducible first | exact HB.out | apply bU | apply bS GE299.out | apply bS GE300.out | apply bS GE301.out) | exact HB.out)⟩⟩
     ·replace c16 := Bool.eq_false_iff.mpr c16
      subst c16
      have H1 : (waypointlaw32_LsaOrder.j0 k true a0_0 a0_1 a0_2 a0_3 l0_4 l0_5 a1_0 a1_1 a1_2 a1_3 l1_4 l1_5 a2_0 a2_1 a2_2 a2_3 l2_4 l2_5) = some r := by rw [if_neg (show ¬ (false = true) by decide)] at H; exact H
      clear H
      have H := H1
      clear H1
      have H' := Aside0.mk H
      clear H
      have hnb61 := NB299_300.out
      have hnc61 := NB300_299.out
      have hnb62 := NB299_301.out
      have hnc62 := NB301_299.out
      obtain ⟨hcz63_0, hcz63_1, hcz63_2, hcz63_3, hcz63_4, hcz63_5, hfz63_0, hfz63_1, hfz63_2, hfz63_3, hfz63_4, hfz63_5⟩ := c6_ BK299
      go_wp2_with (first | ((with_reducible refine gate_callee (f := 11) rfl ?_); refine goesL_ (some 13) rfl rfl Try.func11 (by kernel_rfl) rfl #[.agg #[.int .i64 a0_0, .int .i64 a0_1, .int .i64 a0_2, .bool a0_3, .slice A0_4 l0_4.length c0_4, .slice A0_5 l0_5.length c0_5]] rfl (by (try simp only [List.map_toArray, List.map_cons, List.map_nil]); first | done | rfl | (simp only [List.length_drop, List.length_take]; rfl)) ?_; (with_reducible refine (waypointref32_Few.calls a0_0 a0_1 a0_2 a0_3 _ _ l0_4 _ _ l0_5 true _ ?side1 ?side2 ?side3 ?side4 A11.out).mono ?_); (case side1 => exact cs_ HR0_4 HB); (case side2 => exact HC0_4.out); (case side3 => exact cs_ HR0_5 HB); (case side4 => exact HC0_5.out); rintro e w64 ⟨rfl, hb⟩; refine ⟨_, rfl, ?_⟩; replace BK299 := bb_ BK299 hb; replace BK300 := bb_ BK300 hb; replace BK301 := bb_ BK301 hb; replace HB := Aside0.mk (below_step (by repeat (first | (with_reducible first | exact HB.out | apply bU | apply bS GE299.out | apply bS GE300.out | apply bS GE301.out) | exact HB.out)) hb); (try clear hb); (try clear hb2); (try clear hk); (try clear hi); have hnb65 := NB300_301.out; have hnc65 := NB301_300.out; obtain ⟨hcz66_0, hcz66_1, hcz66_2, hcz66_3, hcz66_4, hcz66_5, hfz66_0, hfz66_1, hfz66_2, hfz66_3, hfz66_4, hfz66_5⟩ := c6_ BK300) | (go_at_call 11; (with_reducible refine (waypointref32_Few.calls a1_0 a1_1 a1_2 a1_3 _ _ l1_4 _ _ l1_5 true _ ?side1 ?side2 ?side3 ?side4 A13.out).mono ?_); (case side1 => exact cs_ HR1_4 HB); (case side2 => exact HC1_4.out); (case side3 => exact cs_ HR1_5 HB); (case side4 => exact HC1_5.out); rintro e w67 ⟨rfl, hb⟩; replace BK299 := bb_ BK299 hb; replace BK300 := bb_ BK300 hb; replace BK301 := bb_ BK301 hb; replace HB := Aside0.mk (below_step (by repeat (first | (with_reducible first | exact HB.out | apply bU | apply bS GE299.out | apply bS GE300.out | apply bS GE301.out) | exact HB.out)) hb); (try clear hb); (try clear hb2); (try clear hk); (try clear hi); obtain ⟨hcz68_0, hcz68_1, hcz68_2, hcz68_3, hcz68_4, hcz68_5, hfz68_0, hfz68_1, hfz68_2, hfz68_3, hfz68_4, hfz68_5⟩ := c6_ BK301) | (go_at_call 11; (with_reducible refine (waypointref32_Few.calls a2_0 a2_1 a2_2 a2_3 _ _ l2_4 _ _ l2_5 false _ ?side1 ?side2 ?side3 ?side4 A15.out).mono ?_); (case side1 => exact cs_ HR2_4 HB); (case side2 => exact HC2_4.out); (case side3 => exact cs_ HR2_5 HB); (case side4 => exact HC2_5.out); rintro e w69 ⟨rfl, hb⟩; replace BK299 := bb_ BK299 hb; replace BK300 := bb_ BK300 hb; replace BK301 := bb_ BK301 hb; replace HB := Aside0.mk (below_step (by repeat (first | (with_reducible first | exact HB.out | apply bU | apply bS GE299.out | apply bS GE300.out | apply bS GE301.out) | exact HB.out)) hb); (try clear hb); (try clear hb2); (try clear hk); (try clear hi)))
      go_meet
      case rel => exact ⟨_, (true), (by first | rfl | (simp; done) | (simp [*]; done)), H', ⟨by first | omega | exact Nat.le_refl _⟩, ⟨kb_ BK299⟩, ⟨kb_ BK300⟩, ⟨kb_ BK301⟩, ⟨by repeat (first | (with_reducible first | exact HB.out | apply bU | apply bS GE299.out | apply bS GE300.out | apply bS GE301.out) | exact HB.out)⟩⟩
    ·replace c14 := Bool.eq_false_iff.mpr c14
     subst c14
     have H1 : (waypointlaw32_LsaOrder.j0 k true a0_0 a0_1 a0_2 a0_3 l0_4 l0_5 a1_0 a1_1 a1_2 a1_3 l1_4 l1_5 a2_0 a2_1 a2_2 a2_3 l2_4 l2_5) = some r := by rw [if_neg (show ¬ (false = true) by decide)] at H; exact H
     clear H
     have H := H1
     clear H1
     have H' := Aside0.mk H
     clear H
     have hnb70 := NB299_300.out
     have hnc70 := NB300_299.out
     have hnb71 := NB299_301.out
     have hnc71 := NB301_299.out
     obtain ⟨hcz72_0, hcz72_1, hcz72_2, hcz72_3, hcz72_4, hcz72_5, hfz72_0, hfz72_1, hfz72_2, hfz72_3, hfz72_4, hfz72_5⟩ := c6_ BK299
     go_wp2_with (first | ((with_reducible refine gate_callee (f := 11) rfl ?_); refine goesL_ (some 13) rfl rfl Try.func11 (by kernel_rfl) rfl #[.agg #[.int .i64 a0_0, .int .i64 a0_1, .int .i64 a0_2, .bool a0_3, .slice A0_4 l0_4.length c0_4, .slice A0_5 l0_5.length c0_5]] rfl (by (try simp only [List.map_toArray, List.map_cons, List.map_nil]); first | done | rfl | (simp only [List.length_drop, List.length_take]; rfl)) ?_; (with_reducible refine (waypointref32_Few.calls a0_0 a0_1 a0_2 a0_3 _ _ l0_4 _ _ l0_5 true _ ?side1 ?side2 ?side3 ?side4 A11.out).mono ?_); (case side1 => exact cs_ HR0_4 HB); (case side2 => exact HC0_4.out); (case side3 => exact cs_ HR0_5 HB); (case side4 => exact HC0_5.out); rintro e w73 ⟨rfl, hb⟩; refine ⟨_, rfl, ?_⟩; replace BK299 := bb_ BK299 hb; replace BK300 := bb_ BK300 hb; replace BK301 := bb_ BK301 hb; replace HB := Aside0.mk (below_step (by repeat (first | (with_reducible first | exact HB.out | apply bU | apply bS GE299.out | apply bS GE300.out | apply bS GE301.out) | exact HB.out)) hb); (try clear hb); (try clear hb2); (try clear hk); (try clear hi); have hnb74 := NB300_301.out; have hnc74 := NB301_300.out; obtain ⟨hcz75_0, hcz75_1, hcz75_2, hcz75_3, hcz75_4, hcz75_5, hfz75_0, hfz75_1, hfz75_2, hfz75_3, hfz75_4, hfz75_5⟩ := c6_ BK300) | (go_at_call 11; (with_reducible refine (waypointref32_Few.calls a1_0 a1_1 a1_2 a1_3 _ _ l1_4 _ _ l1_5 false _ ?side1 ?side2 ?side3 ?side4 A13.out).mono ?_); (case side1 => exact cs_ HR1_4 HB); (case side2 => exact HC1_4.out); (case side3 => exact cs_ HR1_5 HB); (case side4 => exact HC1_5.out); rintro e w76 ⟨rfl, hb⟩; replace BK299 := bb_ BK299 hb; replace BK300 := bb_ BK300 hb; replace BK301 := bb_ BK301 hb; replace HB := Aside0.mk (below_step (by repeat (first | (with_reducible first | exact HB.out | apply bU | apply bS GE299.out | apply bS GE300.out | apply bS GE301.out) | exact HB.out)) hb); (try clear hb); (try clear hb2); (try clear hk); (try clear hi)))
     go_meet
     case rel => exact ⟨_, (true), (by first | rfl | (simp; done) | (simp [*]; done)), H', ⟨by first | omega | exact Nat.le_refl _⟩, ⟨kb_ BK299⟩, ⟨kb_ BK300⟩, ⟨kb_ BK301⟩, ⟨by repeat (first | (with_reducible first | exact HB.out | apply bU | apply bS GE299.out | apply bS GE300.out | apply bS GE301.out) | exact HB.out)⟩⟩
   ·replace c12 := Bool.eq_false_iff.mpr c12
    subst c12
    have H1 : (waypointlaw32_LsaOrder.j0 k true a0_0 a0_1 a0_2 a0_3 l0_4 l0_5 a1_0 a1_1 a1_2 a1_3 l1_4 l1_5 a2_0 a2_1 a2_2 a2_3 l2_4 l2_5) = some r := by rw [if_neg (show ¬ (false = true) by decide)] at H; exact H
    clear H
    have H := H1
    clear H1
    have H' := Aside0.mk H
    clear H
    have hnb77 := NB299_300.out
    have hnc77 := NB300_299.out
    have hnb78 := NB299_301.out
    have hnc78 := NB301_299.out
    obtain ⟨hcz79_0, hcz79_1, hcz79_2, hcz79_3, hcz79_4, hcz79_5, hfz79_0, hfz79_1, hfz79_2, hfz79_3, hfz79_4, hfz79_5⟩ := c6_ BK299
    go_wp2_with (first | ((with_reducible refine gate_callee (f := 11) rfl ?_); refine goesL_ (some 13) rfl rfl Try.func11 (by kernel_rfl) rfl #[.agg #[.int .i64 a0_0, .int .i64 a0_1, .int .i64 a0_2, .bool a0_3, .slice A0_4 l0_4.length c0_4, .slice A0_5 l0_5.length c0_5]] rfl (by (try simp only [List.map_toArray, List.map_cons, List.map_nil]); first | done | rfl | (simp only [List.length_drop, List.length_take]; rfl)) ?_; (with_reducible refine (waypointref32_Few.calls a0_0 a0_1 a0_2 a0_3 _ _ l0_4 _ _ l0_5 false _ ?side1 ?side2 ?side3 ?side4 A11.out).mono ?_); (case side1 => exact cs_ HR0_4 HB); (case side2 => exact HC0_4.out); (case side3 => exact cs_ HR0_5 HB); (case side4 => exact HC0_5.out); rintro e w80 ⟨rfl, hb⟩; refine ⟨_, rfl, ?_⟩; replace BK299 := bb_ BK299 hb; replace BK300 := bb_ BK300 hb; replace BK301 := bb_ BK301 hb; replace HB := Aside0.mk (below_step (by repeat (first | (with_reducible first | exact HB.out | apply bU | apply bS GE299.out | apply bS GE300.out | apply bS GE301.out) | exact HB.out)) hb); (try clear hb); (try clear hb2); (try clear hk); (try clear hi)))
    go_meet
    case rel => exact ⟨_, (true), (by first | rfl | (simp; done) | (simp [*]; done)), H', ⟨by first | omega | exact Nat.le_refl _⟩, ⟨kb_ BK299⟩, ⟨kb_ BK300⟩, ⟨kb_ BK301⟩, ⟨by repeat (first | (with_reducible first | exact HB.out | apply bU | apply bS GE299.out | apply bS GE300.out | apply bS GE301.out) | exact HB.out)⟩⟩
  case rest =>
   clear HC6
   (try clear c5)
   obtain ⟨kq, x39_5, rfl, HA, HJ5, BK299, BK300, BK301, HB⟩ := hcut
   cases kq with
   | zero => exact absurd HA.out (by simp [waypointlaw32_LsaOrder.j0])
   | succ kj5 =>
    have H := HA.out
    clear HA
    simp only [waypointlaw32_LsaOrder.j0] at H
    by_cases c81 : x39_5 = true
    ·subst c81
     have H1 : (some true) = some r := by rw [if_pos rfl] at H; exact H
     clear H
     have H := H1
     clear H1
     obtain rfl := Option.some.inj H
     go_wp2
     go_ret
     exact ⟨by first | rfl | (simp [errW_none, errW_some] <;> rfl) | (simp [*, errW_none, errW_some] <;> rfl), by repeat (first | (with_reducible first | exact HB.out | apply bU | apply bS GE299.out | apply bS GE300.out | apply bS GE301.out) | exact HB.out)⟩
    ·replace c81 := Bool.eq_false_iff.mpr c81
     subst c81
     have H1 : ((lsa_Newer.f kj5 a0_0 a0_1 a0_2 a0_3 l0_4 l0_5 a1_0 a1_1 a1_2 a1_3 l1_4 l1_5).bind fun t309 => ((lsa_Newer.f kj5 a1_0 a1_1 a1_2 a1_3 l1_4 l1_5 a2_0 a2_1 a2_2 a2_3 l2_4 l2_5).bind fun t310 => ((lsa_Newer.f kj5 a0_0 a0_1 a0_2 a0_3 l0_4 l0_5 a2_0 a2_1 a2_2 a2_3 l2_4 l2_5).bind fun t311 => ((lsa_Newer.f kj5 a1_0 a1_1 a1_2 a1_3 l1_4 l1_5 a0_0 a0_1 a0_2 a0_3 l0_4 l0_5).bind fun t312 => (if t312 = (wrap64 (-t309)) then ((lsa_Same.f kj5 a0_0 a0_1 a0_2 a0_3 l0_4 l0_5 a1_0 a1_1 a1_2 a1_3 l1_4 l1_5).bind fun t313 => (waypointlaw32_LsaOrder.j1 kj5 t309 t310 t311 ((t309 == 0) != t313))) else (waypointlaw32_LsaOrder.j1 kj5 t309 t310 t311 true)))))) = some r := by rw [if_neg (show ¬ (false = true) by decide)] at H; exact H
     clear H
     have H := H1
     clear H1
     replace H := Option.bind_eq_some_iff.mp H
     obtain ⟨t309, A820, H⟩ := H
     replace H : ((lsa_Newer.f kj5 a1_0 a1_1 a1_2 a1_3 l1_4 l1_5 a2_0 a2_1 a2_2 a2_3 l2_4 l2_5).bind fun t310 => ((lsa_Newer.f kj5 a0_0 a0_1 a0_2 a0_3 l0_4 l0_5 a2_0 a2_1 a2_2 a2_3 l2_4 l2_5).bind fun t311 => ((lsa_Newer.f kj5 a1_0 a1_1 a1_2 a1_3 l1_4 l1_5 a0_0 a0_1 a0_2 a0_3 l0_4 l0_5).bind fun t312 => (if t312 = (wrap64 (-t309)) then ((lsa_Same.f kj5 a0_0 a0_1 a0_2 a0_3 l0_4 l0_5 a1_0 a1_1 a1_2 a1_3 l1_4 l1_5).bind fun t313 => (waypointlaw32_LsaOrder.j1 kj5 t309 t310 t311 ((t309 == 0) != t313))) else (waypointlaw32_LsaOrder.j1 kj5 t309 t310 t311 true))))) = some r := H
     have A82 := Aside0.mk A820
     clear A820
     replace H := Option.bind_eq_some_iff.mp H
     obtain ⟨t310, A830, H⟩ := H
     replace H : ((lsa_Newer.f kj5 a0_0 a0_1 a0_2 a0_3 l0_4 l0_5 a2_0 a2_1 a2_2 a2_3 l2_4 l2_5).bind fun t311 => ((lsa_Newer.f kj5 a1_0 a1_1 a1_2 a1_3 l1_4 l1_5 a0_0 a0_1 a0_2 a0_3 l0_4 l0_5).bind fun t312 => (if t312 = (wrap64 (-t309)) then ((lsa_Same.f kj5 a0_0 a0_1 a0_2 a0_3 l0_4 l0_5 a1_0 a1_1 a1_2 a1_3 l1_4 l1_5).bind fun t313 => (waypointlaw32_LsaOrder.j1 kj5 t309 t310 t311 ((t309 == 0) != t313))) else (waypointlaw32_LsaOrder.j1 kj5 t309 t310 t311 true)))) = some r := H
     have A83 := Aside0.mk A830
     clear A830
     replace H := Option.bind_eq_some_iff.mp H
     obtain ⟨t311, A840, H⟩ := H
     replace H : ((lsa_Newer.f kj5 a1_0 a1_1 a1_2 a1_3 l1_4 l1_5 a0_0 a0_1 a0_2 a0_3 l0_4 l0_5).bind fun t312 => (if t312 = (wrap64 (-t309)) then ((lsa_Same.f kj5 a0_0 a0_1 a0_2 a0_3 l0_4 l0_5 a1_0 a1_1 a1_2 a1_3 l1_4 l1_5).bind fun t313 => (waypointlaw32_LsaOrder.j1 kj5 t309 t310 t311 ((t309 == 0) != t313))) else (waypointlaw32_LsaOrder.j1 kj5 t309 t310 t311 true))) = some r := H
     have A84 := Aside0.mk A840
     clear A840
     have HC85 := Aside0.mk H
     clear H
     try go_wp2
     replace BK299 := Aside0.mk (blk_drew BK299.out)
     replace BK300 := Aside0.mk (blk_drew BK300.out)
     replace BK301 := Aside0.mk (blk_drew BK301.out)
     replace HB := Aside0.mk (below_drew1 HB.out)
     refine start_ (n := 12) (S := fun w' => w'.cell? ⟨gb299, 0, none⟩ = some (.int .i64 a0_0) ∧ w'.cell? ⟨gb299, 1, none⟩ = some (.int .i64 a0_1) ∧ w'.cell? ⟨gb299, 2, none⟩ = some (.int .i64 a0_2) ∧ w'.cell? ⟨gb299, 3, none⟩ = some (.bool a0_3) ∧ w'.cell? ⟨gb299, 4, none⟩ = some (.slice A0_4 l0_4.length c0_4) ∧ w'.cell? ⟨gb299, 5, none⟩ = some (.slice A0_5 l0_5.length c0_5) ∧ w'.cell? ⟨gb300, 0, none⟩ = some (.int .i64 a1_0) ∧ w'.cell? ⟨gb300, 1, none⟩ = some (.int .i64 a1_1) ∧ w'.cell? ⟨gb300, 2, none⟩ = some (.int .i64 a1_2) ∧ w'.cell? ⟨gb300, 3, none⟩ = some (.bool a1_3) ∧ w'.cell? ⟨gb300, 4, none⟩ = some (.slice A1_4 l1_4.length c1_4) ∧ w'.cell? ⟨gb300, 5, none⟩ = some (.slice A1_5 l1_5.length c1_5) ∧ w'.cell? ⟨gb301, 0, none⟩ = some (.int .i64 a2_0) ∧ w'.cell? ⟨gb301, 1, none⟩ = some (.int .i64 a2_1) ∧ w'.cell? ⟨gb301, 2, none⟩ = some (.int .i64 a2_2) ∧ w'.cell? ⟨gb301, 3, none⟩ = some (.bool a2_3) ∧ w'.cell? ⟨gb301, 4, none⟩ = some (.slice A2_4 l2_4.length c2_4) ∧ w'.cell? ⟨gb301, 5, none⟩ = some (.slice A2_5 l2_5.length c2_5)) (ds := []) #[false, false, false, false, false, false, false, false, false, false, false, false] (by kernel_rfl) rfl rfl ⟨(blk_cell BK299.out 0).trans rfl, (blk_cell BK299.out 1).trans rfl, (blk_cell BK299.out 2).trans rfl, (blk_cell BK299.out 3).trans rfl, (blk_cell BK299.out 4).trans rfl, (blk_cell BK299.out 5).trans rfl, (blk_cell BK300.out 0).trans rfl, (blk_cell BK300.out 1).trans rfl, (blk_cell BK300.out 2).trans rfl, (blk_cell BK300.out 3).trans rfl, (blk_cell BK300.out 4).trans rfl, (blk_cell BK300.out 5).trans rfl, (blk_cell BK301.out 0).trans rfl, (blk_cell BK301.out 1).trans rfl, (blk_cell BK301.out 2).trans rfl, (blk_cell BK301.out 3).trans rfl, (blk_cell BK301.out 4).trans rfl, (blk_cell BK301.out 5).trans rfl⟩ (fun hHeld => ?_); refine with_tabW waypointlaw32_LsaOrder.tab5 waypointlaw32_LsaOrder.bits5 (fun HT_ HW_ => ?_)
     generalize wc.drew = w86 at BK299 BK300 BK301 HB hHeld ⊢
     refine ty 0 40 HT_ HW_ rfl (Or.inl ⟨by rfl, by rintro w' ⟨s0, s1, s2, s3, s4, s5, s6, s7, s8, s9, s10, s11, s12, s13, s14, s15, s16, s17⟩; go_simp; with_reducible rfl⟩) hHeld ?_
     refine ty 1 41 HT_ HW_ rfl (Or.inl ⟨by rfl, by rintro w' ⟨s0, s1, s2, s3, s4, s5, s6, s7, s8, s9, s10, s11, s12, s13, s14, s15, s16, s17⟩; go_simp; with_reducible rfl⟩) hHeld ?_
     refine ty 3 43 HT_ HW_ rfl (Or.inl ⟨by rfl, by rintro w' ⟨s0, s1, s2, s3, s4, s5, s6, s7, s8, s9, s10, s11, s12, s13, s14, s15, s16, s17⟩; go_simp; with_reducible rfl⟩) hHeld ?_
     refine ty 4 44 HT_ HW_ rfl (Or.inl ⟨by rfl, by rintro w' ⟨s0, s1, s2, s3, s4, s5, s6, s7, s8, s9, s10, s11, s12, s13, s14, s15, s16, s17⟩; go_simp; with_reducible rfl⟩) hHeld ?_
     refine ty 6 46 HT_ HW_ rfl (Or.inl ⟨by rfl, by rintro w' ⟨s0, s1, s2, s3, s4, s5, s6, s7, s8, s9, s10, s11, s12, s13, s14, s15, s16, s17⟩; go_simp; with_reducible rfl⟩) hHeld ?_
     refine ty 7 47 HT_ HW_ rfl (Or.inl ⟨by rfl, by rintro w' ⟨s0, s1, s2, s3, s4, s5, s6, s7, s8, s9, s10, s11, s12, s13, s14, s15, s16, s17⟩; go_simp; with_reducible rfl⟩) hHeld ?_
     refine one_ (i := 2) (N := some 42) #[true, true, true, true, true, false, true, true, false, false, false, false] rfl rfl (one_of HT_.out (by kernel_rfl)) (by decide) (fun K hK => ?_)
     refine goes_ Try.func21 (by kernel_rfl) rfl #[.agg #[.int .i64 a0_0, .int .i64 a0_1, .int .i64 a0_2, .bool a0_3, .slice A0_4 l0_4.length c0_4, .slice A0_5 l0_5.length c0_5], .agg #[.int .i64 a1_0, .int .i64 a1_1, .int .i64 a1_2, .bool a1_3, .slice A1_4 l1_4.length c1_4, .slice A1_5 l1_5.length c1_5]] (by rfl) rfl rfl (by (try simp only [List.map_toArray, List.map_cons, List.map_nil]); first | done | rfl | (simp only [List.length_drop, List.length_take]; rfl)) ?_
     with_reducible refine (lsa_Newer.calls kj5 a0_0 a0_1 a0_2 a0_3 _ _ l0_4 _ _ l0_5 a1_0 a1_1 a1_2 a1_3 _ _ l1_4 _ _ l1_5 t309 _ ?side1 ?side2 ?side3 ?side4 ?side5 ?side6 ?side7 ?side8 A82.out).mono ?_
     (case side1 => exact cs_ HR0_4 HB)
     (case side2 => exact HC0_4.out)
     (case side3 => exact cs_ HR0_5 HB)
     (case side4 => exact HC0_5.out)
     (case side5 => exact cs_ HR1_4 HB)
     (case side6 => exact HC1_4.out)
     (case side7 => exact cs_ HR1_5 HB)
     (case side8 => exact HC1_5.out)
     rintro e w87 ⟨rfl, hb⟩
     refine ⟨_, rfl, ?_⟩
     replace BK299 := bb_ BK299 hb
     replace BK300 := bb_ BK300 hb
     replace BK301 := bb_ BK301 hb
     replace HB := Aside0.mk (below_step (by repeat (first | (with_reducible first | exact HB.out | apply bU | apply bS GE299.out | apply bS GE300.out | apply bS GE301.out) | exact HB.out)) hb)
     (try clear hb)
     (try clear hb2)
     (try clear hk)
     (try clear hi)
     refine hK.out _ _ ⟨(blk_cell BK299.out 0).trans rfl, (blk_cell BK299.out 1).trans rfl, (blk_cell BK299.out 2).trans rfl, (blk_cell BK299.out 3).trans rfl, (blk_cell BK299.out 4).trans rfl, (blk_cell BK299.out 5).trans rfl, (blk_cell BK300.out 0).trans rfl, (blk_cell BK300.out 1).trans rfl, (blk_cell BK300.out 2).trans rfl, (blk_cell BK300.out 3).trans rfl, (blk_cell BK300.out 4).trans rfl, (blk_cell BK300.out 5).trans rfl, (blk_cell BK301.out 0).trans rfl, (blk_cell BK301.out 1).trans rfl, (blk_cell BK301.out 2).trans rfl, (blk_cell BK301.out 3).trans rfl, (blk_cell BK301.out 4).trans rfl, (blk_cell BK301.out 5).trans rfl⟩ (fun hHeld => ?_)
     clear hK K
     refine norm_ (a' := ?_) ?_ ?_
     rotate_left
     ·show Act.put _ (some 42) _ = _
      simp only [Act.put, List.setIfInBounds_toArray, List.set_cons_zero, List.set_cons_succ, i64_w, i32_w]
      rfl
     refine one_ (i := 5) (N := some 45) #[true, true, true, true, true, true, true, true, false, false, false, false] rfl rfl (one_of HT_.out (by kernel_rfl)) (by decide) (fun K hK => ?_)
     refine goes_ Try.func21 (by kernel_rfl) rfl #[.agg #[.int .i64 a1_0, .int .i64 a1_1, .int .i64 a1_2, .bool a1_3, .slice A1_4 l1_4.length c1_4, .slice A1_5 l1_5.length c1_5], .agg #[.int .i64 a2_0, .int .i64 a2_1, .int .i64 a2_2, .bool a2_3, .slice A2_4 l2_4.length c2_4, .slice A2_5 l2_5.length c2_5]] (by rfl) rfl rfl (by (try simp only [List.map_toArray, List.map_cons, List.map_nil]); first | done | rfl | (simp only [List.length_drop, List.length_take]; rfl)) ?_
     with_reducible refine (lsa_Newer.calls kj5 a1_0 a1_1 a1_2 a1_3 _ _ l1_4 _ _ l1_5 a2_0 a2_1 a2_2 a2_3 _ _ l2_4 _ _ l2_5 t310 _ ?side1 ?side2 ?side3 ?side4 ?side5 ?side6 ?side7 ?side8 A83.out).mono ?_
     (case side1 => exact cs_ HR1_4 HB)
     (case side2 => exact HC1_4.out)
     (case side3 => exact cs_ HR1_5 HB)
     (case side4 => exact HC1_5.out)
     (case side5 => exact cs_ HR2_4 HB)
     (case side6 => exact HC2_4.out)
     (case side7 => exact cs_ HR2_5 HB)
     (case side8 => exact HC2_5.out)
     rintro e w88 ⟨rfl, hb⟩
     refine ⟨_, rfl, ?_⟩
     replace BK299 := bb_ BK299 hb
     replace BK300 := bb_ BK300 hb
     replace BK301 := bb_ BK301 hb
     replace HB := Aside0.mk (below_step (by repeat (first | (with_reducible first | exact HB.out | apply bU | apply bS GE299.out | apply bS GE300.out | apply bS GE301.out) | exact HB.out)) hb)
     (try clear hb)
     (try clear hb2)
     (try clear hk)
     (try clear hi)
     refine hK.out _ _ ⟨(blk_cell BK299.out 0).trans rfl, (blk_cell BK299.out 1).trans rfl, (blk_cell BK299.out 2).trans rfl, (blk_cell BK299.out 3).trans rfl, (blk_cell BK299.out 4).trans rfl, (blk_cell BK299.out 5).trans rfl, (blk_cell BK300.out 0).trans rfl, (blk_cell BK300.out 1).trans rfl, (blk_cell BK300.out 2).trans rfl, (blk_cell BK300.out 3).trans rfl, (blk_cell BK300.out 4).trans rfl, (blk_cell BK300.out 5).trans rfl, (blk_cell BK301.out 0).trans rfl, (blk_cell BK301.out 1).trans rfl, (blk_cell BK301.out 2).trans rfl, (blk_cell BK301.out 3).trans rfl, (blk_cell BK301.out 4).trans rfl, (blk_cell BK301.out 5).trans rfl⟩ (fun hHeld => ?_)
     clear hK K
     refine norm_ (a' := ?_) ?_ ?_
     rotate_left
     ·show Act.put _ (some 45) _ = _
      simp only [Act.put, List.setIfInBounds_toArray, List.set_cons_zero, List.set_cons_succ, i64_w, i32_w]
      rfl
     refine one_ (i := 8) (N := some 48) #[true, true, true, true, true, true, true, true, true, false, false, false] rfl rfl (one_of HT_.out (by kernel_rfl)) (by decide) (fun K hK => ?_)
     refine goes_ Try.func21 (by kernel_rfl) rfl #[.agg #[.int .i64 a0_0, .int .i64 a0_1, .int .i64 a0_2, .bool a0_3, .slice A0_4 l0_4.length c0_4, .slice A0_5 l0_5.length c0_5], .agg #[.int .i64 a2_0, .int .i64 a2_1, .int .i64 a2_2, .bool a2_3, .slice A2_4 l2_4.length c2_4, .slice A2_5 l2_5.length c2_5]] (by rfl) rfl rfl (by (try simp only [List.map_toArray, List.map_cons, List.map_nil]); first | done | rfl | (simp only [List.length_drop, List.length_take]; rfl)) ?_
     with_reducible refine (lsa_Newer.calls kj5 a0_0 a0_1 a0_2 a0_3 _ _ l0_4 _ _ l0_5 a2_0 a2_1 a2_2 a2_3 _ _ l2_4 _ _ l2_5 t311 _ ?side1 ?side2 ?side3 ?side4 ?side5 ?side6 ?side7 ?side8 A84.out).mono ?_
     (case side1 => exact cs_ HR0_4 HB)
     (case side2 => exact HC0_4.out)
     (case side3 => exact cs_ HR0_5 HB)
     (case side4 => exact HC0_5.out)
     (case side5 => exact cs_ HR2_4 HB)
     (case side6 => exact HC2_4.out)
     (case side7 => exact cs_ HR2_5 HB)
     (case side8 => exact HC2_5.out)
     rintro e w89 ⟨rfl, hb⟩
     refine ⟨_, rfl, ?_⟩
     replace BK299 := bb_ BK299 hb
     replace BK300 := bb_ BK300 hb
     replace BK301 := bb_ BK301 hb
     replace HB := Aside0.mk (below_step (by repeat (first | (with_reducible first | exact HB.out | apply bU | apply bS GE299.out | apply bS GE300.out | apply bS GE301.out) | exact HB.out)) hb)
     (try clear hb)
     (try clear hb2)
     (try clear hk)
     (try clear hi)
     refine hK.out _ _ ⟨(blk_cell BK299.out 0).trans rfl, (blk_cell BK299.out 1).trans rfl, (blk_cell BK299.out 2).trans rfl, (blk_cell BK299.out 3).trans rfl, (blk_cell BK299.out 4).trans rfl, (blk_cell BK299.out 5).trans rfl, (blk_cell BK300.out 0).trans rfl, (blk_cell BK300.out 1).trans rfl, (blk_cell BK300.out 2).trans rfl, (blk_cell BK300.out 3).trans rfl, (blk_cell BK300.out 4).trans rfl, (blk_cell BK300.out 5).trans rfl, (blk_cell BK301.out 0).trans rfl, (blk_cell BK301.out 1).trans rfl, (blk_cell BK301.out 2).trans rfl, (blk_cell BK301.out 3).trans rfl, (blk_cell BK301.out 4).trans rfl, (blk_cell BK301.out 5).trans rfl⟩ (fun hHeld => ?_)
     clear hK K
     refine norm_ (a' := ?_) ?_ ?_
     rotate_left
     ·show Act.put _ (some 48) _ = _
      simp only [Act.put, List.setIfInBounds_toArray, List.set_cons_zero, List.set_cons_succ, i64_w, i32_w]
      rfl
     refine py 9 7 HT_ ?_
     refine py 10 8 HT_ ?_
     refine py 11 9 HT_ ?_
     refine done_ (done_of HT_.out (by kernel_rfl)) ?_
     go_upto_region 6 with (fail)
     go_cut [62] (fun v62 wc => ∃ (kq : Nat) (x62_84 : Bool), v62 = .bool x62_84 ∧ Aside0 (waypointlaw32_LsaOrder.j1 kq t309 t310 t311 x62_84 = some r) ∧ Aside0 (kq ≤ kj5) ∧ Aside0 (wc.heap[gb299]? = some (.cells #[.int .i64 a0_0, .int .i64 a0_1, .int .i64 a0_2, .bool a0_3, (.slice A0_4 l0_4.length c0_4), (.slice A0_5 l0_5.length c0_5)] 25 (0, 0))) ∧ Aside0 (wc.heap[gb300]? = some (.cells #[.int .i64 a1_0, .int .i64 a1_1, .int .i64 a1_2, .bool a1_3, (.slice A1_4 l1_4.length c1_4), (.slice A1_5 l1_5.length c1_5)] 25 (0, 0))) ∧ Aside0 (wc.heap[gb301]? = some (.cells #[.int .i64 a2_0, .int .i64 a2_1, .int .i64 a2_2, .bool a2_3, (.slice A2_4 l2_4.length c2_4), (.slice A2_5 l2_5.length c2_5)] 25 (0, 0))) ∧ Aside0 (Below w.heap.size w wc))
     case first =>
      have H := HC85.out
      clear HC85
      replace H := Option.bind_eq_some_iff.mp H
      obtain ⟨t312, A900, H⟩ := H
      replace H : (if t312 = (wrap64 (-t309)) then ((lsa_Same.f kj5 a0_0 a0_1 a0_2 a0_3 l0_4 l0_5 a1_0 a1_1 a1_2 a1_3 l1_4 l1_5).bind fun t313 => (waypointlaw32_LsaOrder.j1 kj5 t309 t310 t311 ((t309 == 0) != t313))) else (waypointlaw32_LsaOrder.j1 kj5 t309 t310 t311 true)) = some r := H
      have A90 := Aside0.mk A900
      clear A900
      by_cases c91 : t312 = (wrap64 (-t309))
      ·rw [if_pos c91] at H
       have c91b0 : (t312 == (wrap64 (-t309))) = true := beq_iff_eq.mpr c91
       have c91b1 : (t312 != (wrap64 (-t309))) = false := bne_eq_false_iff_eq.mpr c91
       clear c91
       (first | rw [c91b0] | (simp only [i64_w, i32_w]; rw [c91b0]) | skip)
       replace H := Option.bind_eq_some_iff.mp H
       obtain ⟨t313, A920, H⟩ := H
       replace H : (waypointlaw32_LsaOrder.j1 kj5 t309 t310 t311 ((t309 == 0) != t313)) = some r := H
       have A92 := Aside0.mk A920
       clear A920
       have H' := Aside0.mk H
       clear H
       have hnb93 := NB300_299.out
       have hnc93 := NB299_300.out
       have hnb94 := NB300_301.out
       have hnc94 := NB301_300.out
       obtain ⟨hcz95_0, hcz95_1, hcz95_2, hcz95_3, hcz95_4, hcz95_5, hfz95_0, hfz95_1, hfz95_2, hfz95_3, hfz95_4, hfz95_5⟩ := c6_ BK300
       have hnb96 := NB299_301.out
       have hnc96 := NB301_299.out
       obtain ⟨hcz97_0, hcz97_1, hcz97_2, hcz97_3, hcz97_4, hcz97_5, hfz97_0, hfz97_1, hfz97_2, hfz97_3, hfz97_4, hfz97_5⟩ := c6_ BK299
       go_wp2_with (first | ((with_reducible refine gate_callee (f := 21) rfl ?_); refine goesL_ (some 51) rfl rfl Try.func21 (by kernel_rfl) rfl #[.agg #[.int .i64 a1_0, .int .i64 a1_1, .int .i64 a1_2, .bool a1_3, .slice A1_4 l1_4.length c1_4, .slice A1_5 l1_5.length c1_5], .agg #[.int .i64 a0_0, .int .i64 a0_1, .int .i64 a0_2, .bool a0_3, .slice A0_4 l0_4.length c0_4, .slice A0_5 l0_5.length c0_5]] rfl (by (try simp only [List.map_toArray, List.map_cons, List.map_nil]); first | done | rfl | (simp only [List.length_drop, List.length_take]; rfl)) ?_; (with_reducible refine (lsa_Newer.calls kj5 a1_0 a1_1 a1_2 a1_3 _ _ l1_4 _ _ l1_5 a0_0 a0_1 a0_2 a0_3 _ _ l0_4 _ _ l0_5 t312 _ ?side1 ?side2 ?side3 ?side4 ?side5 ?side6 ?side7 ?side8 A90.out).mono ?_); (case side1 => exact cs_ HR1_4 HB); (case side2 => exact HC1_4.out); (case side3 => exact cs_ HR1_5 HB); (case side4 => exact HC1_5.out); (case side5 => exact cs_ HR0_4 HB); (case side6 => exact HC0_4.out); (case side7 => exact cs_ HR0_5 HB); (case side8 => exact HC0_5.out); rintro e w98 ⟨rfl, hb⟩; refine ⟨_, rfl, ?_⟩; replace BK299 := bb_ BK299 hb; replace BK300 := bb_ BK300 hb; replace BK301 := bb_ BK301 hb; replace HB := Aside0.mk (below_step (by repeat (first | (with_reducible first | exact HB.out | apply bU | apply bS GE299.out | apply bS GE300.out | apply bS GE301.out) | exact HB.out)) hb); (try clear hb); (try clear hb2); (try clear hk); (try clear hi); obtain ⟨hcz99_0, hcz99_1, hcz99_2, hcz99_3, hcz99_4, hcz99_5, hfz99_0, hfz99_1, hfz99_2, hfz99_3, hfz99_4, hfz99_5⟩ := c6_ BK299; obtain ⟨hcz100_0, hcz100_1, hcz100_2, hcz100_3, hcz100_4, hcz100_5, hfz100_0, hfz100_1, hfz100_2, hfz100_3, hfz100_4, hfz100_5⟩ := c6_ BK300) | (go_at_call 23; (with_reducible refine (lsa_Same.calls kj5 a0_0 a0_1 a0_2 a0_3 _ _ l0_4 _ _ l0_5 a1_0 a1_1 a1_2 a1_3 _ _ l1_4 _ _ l1_5 t313 _ ?side1 ?side2 ?side3 ?side4 ?side5 ?side6 ?side7 ?side8 A92.out).mono ?_); (case side1 => exact cs_ HR0_4 HB); (case side2 => exact HC0_4.out); (case side3 => exact cs_ HR0_5 HB); (case side4 => exact HC0_5.out); (case side5 => exact cs_ HR1_4 HB); (case side6 => exact HC1_4.out); (case side7 => exact cs_ HR1_5 HB); (case side8 => exact HC1_5.out); rintro e w101 ⟨rfl, hb⟩; replace BK299 := bb_ BK299 hb; replace BK300 := bb_ BK300 hb; replace BK301 := bb_ BK301 hb; replace HB := Aside0.mk (below_step (by repeat (first | (with_reducible first | exact HB.out | apply bU | apply bS GE299.out | apply bS GE300.out | apply bS GE301.out) | exact HB.out)) hb); (try clear hb); (try clear hb2); (try clear hk); (try clear hi)))
       go_meet
       case rel => exact ⟨_, (((t309 == 0) != t313)), (by first | rfl | (simp; done) | (simp [*]; done)), H', ⟨by have := HJ5.out; first | omega | exact Nat.le_refl _⟩, ⟨kb_ BK299⟩, ⟨kb_ BK300⟩, ⟨kb_ BK301⟩, ⟨by repeat (first | (with_reducible first | exact HB.out | apply bU | apply bS GE299.out | apply bS GE300.out | apply bS GE301.out) | exact HB.out)⟩⟩
      ·rw [if_neg c91] at H
       have c91b0 : (t312 == (wrap64 (-t309))) = false := beq_eq_false_iff_ne.mpr c91
       have c91b1 : (t312 != (wrap64 (-t309))) = true := bne_iff_ne.mpr c91
       (first | rw [c91b0] | (simp only [i64_w, i32_w]; rw [c91b0]) | skip)
       have H' := Aside0.mk H
       clear H
       have hnb102 := NB300_299.out
       have hnc102 := NB299_300.out
       have hnb103 := NB300_301.out
       have hnc103 := NB301_300.out
       obtain ⟨hcz104_0, hcz104_1, hcz104_2, hcz104_3, hcz104_4, hcz104_5, hfz104_0, hfz104_1, hfz104_2, hfz104_3, hfz104_4, hfz104_5⟩ := c6_ BK300
       have hnb105 := NB299_301.out
       have hnc105 := NB301_299.out
       obtain ⟨hcz106_0, hcz106_1, hcz106_2, hcz106_3, hcz106_4, hcz106_5, hfz106_0, hfz106_1, hfz106_2, hfz106_3, hfz106_4, hfz106_5⟩ := c6_ BK299
       go_wp2_with (first | ((with_reducible refine gate_callee (f := 21) rfl ?_); refine goesL_ (some 51) rfl rfl Try.func21 (by kernel_rfl) rfl #[.agg #[.int .i64 a1_0, .int .i64 a1_1, .int .i64 a1_2, .bool a1_3, .slice A1_4 l1_4.length c1_4, .slice A1_5 l1_5.length c1_5], .agg #[.int .i64 a0_0, .int .i64 a0_1, .int .i64 a0_2, .bool a0_3, .slice A0_4 l0_4.length c0_4, .slice A0_5 l0_5.length c0_5]] rfl (by (try simp only [List.map_toArray, List.map_cons, List.map_nil]); first | done | rfl | (simp only [List.length_drop, List.length_take]; rfl)) ?_; (with_reducible refine (lsa_Newer.calls kj5 a1_0 a1_1 a1_2 a1_3 _ _ l1_4 _ _ l1_5 a0_0 a0_1 a0_2 a0_3 _ _ l0_4 _ _ l0_5 t312 _ ?side1 ?side2 ?side3 ?side4 ?side5 ?side6 ?side7 ?side8 A90.out).mono ?_); (case side1 => exact cs_ HR1_4 HB); (case side2 => exact HC1_4.out); (case side3 => exact cs_ HR1_5 HB); (case side4 => exact HC1_5.out); (case side5 => exact cs_ HR0_4 HB); (case side6 => exact HC0_4.out); (case side7 => exact cs_ HR0_5 HB); (case side8 => exact HC0_5.out); rintro e w107 ⟨rfl, hb⟩; refine ⟨_, rfl, ?_⟩; replace BK299 := bb_ BK299 hb; replace BK300 := bb_ BK300 hb; replace BK301 := bb_ BK301 hb; replace HB := Aside0.mk (below_step (by repeat (first | (with_reducible first | exact HB.out | apply bU | apply bS GE299.out | apply bS GE300.out | apply bS GE301.out) | exact HB.out)) hb); (try clear hb); (try clear hb2); (try clear hk); (try clear hi)))
       go_meet
       case rel => exact ⟨_, (true), (by first | rfl | (simp; done) | (simp [*]; done)), H', ⟨by have := HJ5.out; first | omega | exact Nat.le_refl _⟩, ⟨kb_ BK299⟩, ⟨kb_ BK300⟩, ⟨kb_ BK301⟩, ⟨by repeat (first | (with_reducible first | exact HB.out | apply bU | apply bS GE299.out | apply bS GE300.out | apply bS GE301.out) | exact HB.out)⟩⟩
     case rest =>
      clear HC85
      (try clear c5); (try clear c81)
      obtain ⟨kq, x62_84, rfl, HA, HJ84, BK299, BK300, BK301, HB⟩ := hcut
      cases kq with
      | zero => exact absurd HA.out (by simp [waypointlaw32_LsaOrder.j1])
      | succ kj84 =>
       have H := HA.out
       clear HA
       simp only [waypointlaw32_LsaOrder.j1] at H
       by_cases c108 : x62_84 = true
       ·subst c108
        have H1 : (none) = some r := by rw [if_pos rfl] at H; exact H
        clear H
        have H := H1
        clear H1
        exact absurd H (by simp)
       ·replace c108 := Bool.eq_false_iff.mpr c108
        subst c108
        have H1 : (if t309 ≥ 0 then (if t310 ≥ 0 then (if t311 ≥ 0 then (some (((wrap64 (t309 + t310)) == 0) == (t311 == 0))) else (none)) else (if t309 > 0 then (some true) else (if t310 > 0 then (some true) else (some (decide (t311 < 0)))))) else (if t309 > 0 then (some true) else (if t310 > 0 then (some true) else (some (decide (t311 < 0)))))) = some r := by rw [if_neg (show ¬ (false = true) by decide)] at H; exact H
        clear H
        have H := H1
        clear H1
        by_cases c109 : t309 ≥ 0
        ·rw [if_pos c109] at H
         have c109b0 : decide (0 ≤ t309) = true := decide_eq_true c109
         clear c109
         by_cases c110 : t310 ≥ 0
         ·rw [if_pos c110] at H
          have c110b0 : decide (0 ≤ t310) = true := decide_eq_true c110
          clear c110
          by_cases c111 : t311 ≥ 0
          ·rw [if_pos c111] at H
           have c111b0 : decide (0 ≤ t311) = true := decide_eq_true c111
           clear c111
           obtain rfl := Option.some.inj H
           go_wp2
           go_ret
           exact ⟨by first | rfl | (simp [errW_none, errW_some] <;> rfl) | (simp [*, errW_none, errW_some] <;> rfl), by repeat (first | (with_reducible first | exact HB.out | apply bU | apply bS GE299.out | apply bS GE300.out | apply bS GE301.out) | exact HB.out)⟩
          ·rw [if_neg c111] at H
           exact absurd H (by simp)
         ·rw [if_neg c110] at H
          have c110b0 : decide (0 ≤ t310) = false := decide_eq_false c110
          clear c110
          by_cases c112 : t309 > 0
          ·rw [if_pos c112] at H
           have c112b0 : decide (0 < t309) = true := decide_eq_true c112
           clear c112
           obtain rfl := Option.some.inj H
           go_wp2
           go_ret
           exact ⟨by first | rfl | (simp [errW_none, errW_some] <;> rfl) | (simp [*, errW_none, errW_some] <;> rfl), by repeat (first | (with_reducible first | exact HB.out | apply bU | apply bS GE299.out | apply bS GE300.out | apply bS GE301.out) | exact HB.out)⟩
          ·rw [if_neg c112] at H
           have c112b0 : decide (0 < t309) = false := decide_eq_false c112
           clear c112
           by_cases c113 : t310 > 0
           ·rw [if_pos c113] at H
            have c113b0 : decide (0 < t310) = true := decide_eq_true c113
            clear c113
            obtain rfl := Option.some.inj H
            go_wp2
            go_ret
            exact ⟨by first | rfl | (simp [errW_none, errW_some] <;> rfl) | (simp [*, errW_none, errW_some] <;> rfl), by repeat (first | (with_reducible first | exact HB.out | apply bU | apply bS GE299.out | apply bS GE300.out | apply bS GE301.out) | exact HB.out)⟩
           ·rw [if_neg c113] at H
            have c113b0 : decide (0 < t310) = false := decide_eq_false c113
            clear c113
            obtain rfl := Option.some.inj H
            go_wp2
            go_ret
            exact ⟨by first | rfl | (simp [errW_none, errW_some] <;> rfl) | (simp [*, errW_none, errW_some] <;> rfl), by repeat (first | (with_reducible first | exact HB.out | apply bU | apply bS GE299.out | apply bS GE300.out | apply bS GE301.out) | exact HB.out)⟩
        ·rw [if_neg c109] at H
         have c109b0 : decide (0 ≤ t309) = false := decide_eq_false c109
         clear c109
         by_cases c114 : t309 > 0
         ·rw [if_pos c114] at H
          have c114b0 : decide (0 < t309) = true := decide_eq_true c114
          clear c114
          obtain rfl := Option.some.inj H
          go_wp2
          go_ret
          exact ⟨by first | rfl | (simp [errW_none, errW_some] <;> rfl) | (simp [*, errW_none, errW_some] <;> rfl), by repeat (first | (with_reducible first | exact HB.out | apply bU | apply bS GE299.out | apply bS GE300.out | apply bS GE301.out) | exact HB.out)⟩
         ·rw [if_neg c114] at H
          have c114b0 : decide (0 < t309) = false := decide_eq_false c114
          clear c114
          by_cases c115 : t310 > 0
          ·rw [if_pos c115] at H
           have c115b0 : decide (0 < t310) = true := decide_eq_true c115
           clear c115
           obtain rfl := Option.some.inj H
           go_wp2
           go_ret
           exact ⟨by first | rfl | (simp [errW_none, errW_some] <;> rfl) | (simp [*, errW_none, errW_some] <;> rfl), by repeat (first | (with_reducible first | exact HB.out | apply bU | apply bS GE299.out | apply bS GE300.out | apply bS GE301.out) | exact HB.out)⟩
          ·rw [if_neg c115] at H
           have c115b0 : decide (0 < t310) = false := decide_eq_false c115
           clear c115
           obtain rfl := Option.some.inj H
           go_wp2
           go_ret
           exact ⟨by first | rfl | (simp [errW_none, errW_some] <;> rfl) | (simp [*, errW_none, errW_some] <;> rfl), by repeat (first | (with_reducible first | exact HB.out | apply bU | apply bS GE299.out | apply bS GE300.out | apply bS GE301.out) | exact HB.out)⟩
 ·replace c5 := Bool.eq_false_iff.mpr c5
  subst c5
  have H1 : (none) = some r := by rw [if_neg (show ¬ (false = true) by decide)] at H; exact H
  clear H
  have H := H1
  clear H1
  exact absurd H (by simp)

end Go.Proofs.Ytmknjjfdlkgidaa.HLsc
