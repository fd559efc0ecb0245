-- LAID by wip/hand.py, a program of this repository, over the kit's print: contracts of our own are put in. Lean checks it.
import Derived.Test.YtmknjjfdlkgidaaHLscx0
import Derived.Test.YtmknjjfdlkgidaaHLscx4
import Derived.Test.YtmknjjfdlkgidaaHLscx6
import Derived.Test.YtmknjjfdlkgidaaHLscx7
import Derived.Test.YtmknjjfdlkgidaaHLscx10
import Derived.Test.YtmknjjfdlkgidaaHLscx12
import Derived.Test.YtmknjjfdlkgidaaHLscx14
namespace Go.Proofs.Ytmknjjfdlkgidaa.HLsc
open Go.RowKit Go.Proofs.YtmknjjfdlkgidaaW.PrintWords Go.Proofs.YtmknjjfdlkgidaaW.PrintLast Go.Proofs.YtmknjjfdlkgidaaW.PrintMore
attribute [local go_sem] gtr_str leq_str max2_int min2_int max_two min_two max_three min_three max_four min_four   -- for this text's walks alone
set_option linter.unusedVariables false
set_option linter.unusedSimpArgs false

/-! ### waypointlaw32_LsaValid: function 3 -/
def waypointlaw32_LsaValid.f (k : Nat) (a0_0 : Int) (a0_1 : Int) (a0_2 : Int) (a0_3 : Bool) (l0_4 : List (S43)) (l0_5 : List (S56)) : Option (Bool) := (waypointlaw32_awake.f).bind fun t368 => (if t368 = true then ((waypointref32_Few.f a0_0 a0_1 a0_2 a0_3 l0_4 l0_5).bind fun t369 => (if t369 = true then ((lsa_Encode.f k a0_0 a0_1 a0_2 a0_3 l0_4 l0_5).bind fun bt370 => ((lsa_Purge.f k a0_0 a0_1 a0_2 a0_3 l0_4 l0_5).bind fun bt374 => ((lsa_Valid.f k a0_0 a0_1 a0_2 a0_3 l0_4 l0_5).bind fun t386 => ((waypointref32_Valid.f k a0_0 a0_1 a0_2 a0_3 l0_4 l0_5).bind fun t387 => (if (t386 != t387) = true then (none) else ((waypointref32_Valid.f k a0_0 a0_1 a0_2 a0_3 l0_4 l0_5).bind fun t388 => (if t388 = true then (if bt370.2 = 0 then ((waypointref32_Encode.f k a0_0 a0_1 a0_2 a0_3 l0_4 l0_5).bind fun t390 => (if (strOfNums bt370.1).toList = (strOfNums t390).toList then (if bt374.2.2.2.2.2.2 = 0 then ((waypointref32_Purge.f a0_0 a0_1 a0_2 a0_3 l0_4 l0_5).bind fun bt393 => ((waypointref32_Equal.f k bt374.1 bt374.2.1 bt374.2.2.1 bt374.2.2.2.1 bt374.2.2.2.2.1 bt374.2.2.2.2.2.1 bt393.1 bt393.2.1 bt393.2.2.1 bt393.2.2.2.1 bt393.2.2.2.2.1 bt393.2.2.2.2.2).bind fun t403 => (if t403 = true then ((lsa_Valid.f k bt374.1 bt374.2.1 bt374.2.2.1 bt374.2.2.2.1 bt374.2.2.2.2.1 bt374.2.2.2.2.2.1).bind fun t404 => (some t404)) else (none)))) else (none)) else (none))) else (none)) else (if bt370.2 = 1 then (if (bt370.1.length : Int) = 0 then (if bt374.2.2.2.2.2.2 = 1 then ((waypointref32_Equal.f k bt374.1 bt374.2.1 bt374.2.2.1 bt374.2.2.2.1 bt374.2.2.2.2.1 bt374.2.2.2.2.2.1 0 0 0 false ([] : List (S43)) ([] : List (S56))).bind fun t389 => (some t389)) else (none)) else (none)) else (none))))))))) else (some true))) else (none))
theorem waypointlaw32_LsaValid.mono : ∀ a0 a1 a2 a3 a4 a5 k, LeO (waypointlaw32_LsaValid.f k a0 a1 a2 a3 a4 a5) (waypointlaw32_LsaValid.f (k + 1) a0 a1 a2 a3 a4 a5) := by
 intro a0 a1 a2 a3 a4 a5 k
 unfold waypointlaw32_LsaValid.f
 repeat' first
   | (with_reducible exact lsa_Encode.mono _ _ _ _ _ _ _)
   | (with_reducible exact lsa_Purge.mono _ _ _ _ _ _ _)
   | (with_reducible exact lsa_Valid.mono _ _ _ _ _ _ _)
   | (with_reducible exact waypointref32_Encode.mono _ _ _ _ _ _ _)
   | (with_reducible exact waypointref32_Equal.mono _ _ _ _ _ _ _ _ _ _ _ _ _)
   | (with_reducible exact waypointref32_Valid.mono _ _ _ _ _ _ _)
   | (with_reducible exact LeO.refl _)
   | (with_reducible exact LeO.none _)
   | (with_reducible refine LeO.ite ?_ ?_)
   | (with_reducible refine LeO.bind ?_ (fun _ => ?_))
   | exact lsa_Encode.mono _ _ _ _ _ _ _
   | exact lsa_Purge.mono _ _ _ _ _ _ _
   | exact lsa_Valid.mono _ _ _ _ _ _ _
   | exact waypointref32_Encode.mono _ _ _ _ _ _ _
   | exact waypointref32_Equal.mono _ _ _ _ _ _ _ _ _ _ _ _ _
   | exact waypointref32_Valid.mono _ _ _ _ _ _ _
   | exact LeO.none _
   | refine LeO.ite ?_ ?_
   | refine LeO.bind ?_ (fun _ => ?_)
def waypointlaw32_LsaValid.T11 : Bool × List (List Nat × List Nat) := (true, [([], []), ([0], [0]), ([1], [1]), ([2], [2]), ([3, 2], [2, 3]), ([2], [2]), ([5, 2, 2], [2, 5]), ([6, 2], [2, 6]), ([4, 7, 2], [2, 4, 7]), ([2, 8], [2, 8]), ([9, 6], [9]), ([10], [10]), ([11, 10], [10, 11]), ([10, 12], [10, 12]), ([13, 10], [13]), ([14], [14]), ([14], [14]), ([16, 14, 14], [14, 16]), ([15, 17, 17, 14], [14, 15, 17]), ([14, 18], [14, 18]), ([19, 18], [19]), ([20], [20]), ([21, 20, 20], [20, 21]), ([20, 22], [20, 22]), ([23, 22, 0, 1, 2, 3, 4, 5, 6, 7, 8, 9, 10, 11, 12, 13, 14, 15, 16, 17, 18, 19, 20, 21, 22, 23], [23])])
def waypointlaw32_LsaValid.B11 : List Nat := [0, 1, 3, 7, 15, 7, 39, 103, 255, 511, 1023, 2047, 4095, 8191, 16383, 32767, 32767, 98303, 262143, 524287, 1048575, 2097151, 4194303, 8388607, 16777215]
theorem waypointlaw32_LsaValid.tab11 : rtab .any (opsOf Try.f3 11) = waypointlaw32_LsaValid.T11 := by kernel_rfl
theorem waypointlaw32_LsaValid.bits11 : waitsOk waypointlaw32_LsaValid.T11.2 waypointlaw32_LsaValid.B11 = true := by kernel_rfl
set_option maxHeartbeats 8000000 in
set_option maxRecDepth 100000 in
theorem waypointlaw32_LsaValid.calls (k : Nat) (a0_0 : Int) (a0_1 : Int) (a0_2 : Int) (a0_3 : Bool) (A0_4 : Option Addr) (c0_4 : Nat) (l0_4 : List (S43)) (A0_5 : Option Addr) (c0_5 : Nat) (l0_5 : List (S56)) (r : Bool) (w : World) (hr0_4 : Kd.C k43 w A0_4 l0_4.length l0_4) (hc0_4 : l0_4.length ≤ c0_4) (hr0_5 : Kd.C k56 w A0_5 l0_5.length l0_5) (hc0_5 : l0_5.length ≤ c0_5) (h : waypointlaw32_LsaValid.f k a0_0 a0_1 a0_2 a0_3 l0_4 l0_5 = some r) :
  Calls Try.prog 3 #[.agg #[.int .i64 a0_0, .int .i64 a0_1, .int .i64 a0_2, .bool a0_3, .slice A0_4 l0_4.length c0_4, .slice A0_5 l0_5.length c0_5]] w fun e w' => e = .returned (.bool r) ∧ Below w.heap.size w w' := by
 have hu25 := Try.underlying25
 have HR0_4 := Aside0.mk hr0_4
 have HC0_4 := Aside0.mk hc0_4
 clear hr0_4 hc0_4
 have HR0_5 := Aside0.mk hr0_5
 have HC0_5 := Aside0.mk hc0_5
 clear hr0_5 hc0_5
 have HB := Aside0.mk (Below.refl w.heap.size w)
 have H : ((waypointlaw32_awake.f).bind fun t368 => (if t368 = true then ((waypointref32_Few.f a0_0 a0_1 a0_2 a0_3 l0_4 l0_5).bind fun t369 => (if t369 = true then ((lsa_Encode.f k a0_0 a0_1 a0_2 a0_3 l0_4 l0_5).bind fun bt370 => ((lsa_Purge.f k a0_0 a0_1 a0_2 a0_3 l0_4 l0_5).bind fun bt374 => ((lsa_Valid.f k a0_0 a0_1 a0_2 a0_3 l0_4 l0_5).bind fun t386 => ((waypointref32_Valid.f k a0_0 a0_1 a0_2 a0_3 l0_4 l0_5).bind fun t387 => (if (t386 != t387) = true then (none) else ((waypointref32_Valid.f k a0_0 a0_1 a0_2 a0_3 l0_4 l0_5).bind fun t388 => (if t388 = true then (if bt370.2 = 0 then ((waypointref32_Encode.f k a0_0 a0_1 a0_2 a0_3 l0_4 l0_5).bind fun t390 => (if (strOfNums bt370.1).toList = (strOfNums t390).toList then (if bt374.2.2.2.2.2.2 = 0 then ((waypointref32_Purge.f a0_0 a0_1 a0_2 a0_3 l0_4 l0_5).bind fun bt393 => ((waypointref32_Equal.f k bt374.1 bt374.2.1 bt374.2.2.1 bt374.2.2.2.1 bt374.2.2.2.2.1 bt374.2.2.2.2.2.1 bt393.1 bt393.2.1 bt393.2.2.1 bt393.2.2.2.1 bt393.2.2.2.2.1 bt393.2.2.2.2.2).bind fun t403 => (if t403 = true then ((lsa_Valid.f k bt374.1 bt374.2.1 bt374.2.2.1 bt374.2.2.2.1 bt374.2.2.2.2.1 bt374.2.2.2.2.2.1).bind fun t404 => (some t404)) else (none)))) else (none)) else (none))) else (none)) else (if bt370.2 = 1 then (if (bt370.1.length : Int) = 0 then (if bt374.2.2.2.2.2.2 = 1 then ((waypointref32_Equal.f k bt374.1 bt374.2.1 bt374.2.2.1 bt374.2.2.2.1 bt374.2.2.2.2.1 bt374.2.2.2.2.2.1 0 0 0 false ([] : List (S43)) ([] : List (S56))).bind fun t389 => (some t389)) else (none)) else (none)) else (none))))))))) else (some true))) else (none))) = some r := h
 clear h
 replace H := Option.bind_eq_some_iff.mp H
 obtain ⟨t368, A20, H⟩ := H
 replace H : (if t368 = true then ((waypointref32_Few.f a0_0 a0_1 a0_2 a0_3 l0_4 l0_5).bind fun t369 => (if t369 = true then ((lsa_Encode.f k a0_0 a0_1 a0_2 a0_3 l0_4 l0_5).bind fun bt370 => ((lsa_Purge.f k a0_0 a0_1 a0_2 a0_3 l0_4 l0_5).bind fun bt374 => ((lsa_Valid.f k a0_0 a0_1 a0_2 a0_3 l0_4 l0_5).bind fun t386 => ((waypointref32_Valid.f k a0_0 a0_1 a0_2 a0_3 l0_4 l0_5).bind fun t387 => (if (t386 != t387) = true then (none) else ((waypointref32_Valid.f k a0_0 a0_1 a0_2 a0_3 l0_4 l0_5).bind fun t388 => (if t388 = true then (if bt370.2 = 0 then ((waypointref32_Encode.f k a0_0 a0_1 a0_2 a0_3 l0_4 l0_5).bind fun t390 => (if (strOfNums bt370.1).toList = (strOfNums t390).toList then (if bt374.2.2.2.2.2.2 = 0 then ((waypointref32_Purge.f a0_0 a0_1 a0_2 a0_3 l0_4 l0_5).bind fun bt393 => ((waypointref32_Equal.f k bt374.1 bt374.2.1 bt374.2.2.1 bt374.2.2.2.1 bt374.2.2.2.2.1 bt374.2.2.2.2.2.1 bt393.1 bt393.2.1 bt393.2.2.1 bt393.2.2.2.1 bt393.2.2.2.2.1 bt393.2.2.2.2.2).bind fun t403 => (if t403 = true then ((lsa_Valid.f k bt374.1 bt374.2.1 bt374.2.2.1 bt374.2.2.2.1 bt374.2.2.2.2.1 bt374.2.2.2.2.2.1).bind fun t404 => (some t404)) else (none)))) else (none)) else (none))) else (none)) else (if bt370.2 = 1 then (if (bt370.1.length : Int) = 0 then (if bt374.2.2.2.2.2.2 = 1 then ((waypointref32_Equal.f k bt374.1 bt374.2.1 bt374.2.2.1 bt374.2.2.2.1 bt374.2.2.2.2.1 bt374.2.2.2.2.2.1 0 0 0 false ([] : List (S43)) ([] : List (S56))).bind fun t389 => (some t389)) else (none)) else (none)) else (none))))))))) else (some true))) else (none)) = some r := H
 have A2 := Aside0.mk A20
 clear A20
 by_cases c3 : t368 = true
 ·subst c3
  have H1 : ((waypointref32_Few.f a0_0 a0_1 a0_2 a0_3 l0_4 l0_5).bind fun t369 => (if t369 = true then ((lsa_Encode.f k a0_0 a0_1 a0_2 a0_3 l0_4 l0_5).bind fun bt370 => ((lsa_Purge.f k a0_0 a0_1 a0_2 a0_3 l0_4 l0_5).bind fun bt374 => ((lsa_Valid.f k a0_0 a0_1 a0_2 a0_3 l0_4 l0_5).bind fun t386 => ((waypointref32_Valid.f k a0_0 a0_1 a0_2 a0_3 l0_4 l0_5).bind fun t387 => (if (t386 != t387) = true then (none) else ((waypointref32_Valid.f k a0_0 a0_1 a0_2 a0_3 l0_4 l0_5).bind fun t388 => (if t388 = true then (if bt370.2 = 0 then ((waypointref32_Encode.f k a0_0 a0_1 a0_2 a0_3 l0_4 l0_5).bind fun t390 => (if (strOfNums bt370.1).toList = (strOfNums t390).toList then (if bt374.2.2.2.2.2.2 = 0 then ((waypointref32_Purge.f a0_0 a0_1 a0_2 a0_3 l0_4 l0_5).bind fun bt393 => ((waypointref32_Equal.f k bt374.1 bt374.2.1 bt374.2.2.1 bt374.2.2.2.1 bt374.2.2.2.2.1 bt374.2.2.2.2.2.1 bt393.1 bt393.2.1 bt393.2.2.1 bt393.2.2.2.1 bt393.2.2.2.2.1 bt393.2.2.2.2.2).bind fun t403 => (if t403 = true then ((lsa_Valid.f k bt374.1 bt374.2.1 bt374.2.2.1 bt374.2.2.2.1 bt374.2.2.2.2.1 bt374.2.2.2.2.2.1).bind fun t404 => (some t404)) else (none)))) else (none)) else (none))) else (none)) else (if bt370.2 = 1 then (if (bt370.1.length : Int) = 0 then (if bt374.2.2.2.2.2.2 = 1 then ((waypointref32_Equal.f k bt374.1 bt374.2.1 bt374.2.2.1 bt374.2.2.2.1 bt374.2.2.2.2.1 bt374.2.2.2.2.2.1 0 0 0 false ([] : List (S43)) ([] : List (S56))).bind fun t389 => (some t389)) else (none)) else (none)) else (none))))))))) else (some true))) = some r := by rw [if_pos rfl] at H; exact H
  clear H
  have H := H1
  clear H1
  replace H := Option.bind_eq_some_iff.mp H
  obtain ⟨t369, A40, H⟩ := H
  replace H : (if t369 = true then ((lsa_Encode.f k a0_0 a0_1 a0_2 a0_3 l0_4 l0_5).bind fun bt370 => ((lsa_Purge.f k a0_0 a0_1 a0_2 a0_3 l0_4 l0_5).bind fun bt374 => ((lsa_Valid.f k a0_0 a0_1 a0_2 a0_3 l0_4 l0_5).bind fun t386 => ((waypointref32_Valid.f k a0_0 a0_1 a0_2 a0_3 l0_4 l0_5).bind fun t387 => (if (t386 != t387) = true then (none) else ((waypointref32_Valid.f k a0_0 a0_1 a0_2 a0_3 l0_4 l0_5).bind fun t388 => (if t388 = true then (if bt370.2 = 0 then ((waypointref32_Encode.f k a0_0 a0_1 a0_2 a0_3 l0_4 l0_5).bind fun t390 => (if (strOfNums bt370.1).toList = (strOfNums t390).toList then (if bt374.2.2.2.2.2.2 = 0 then ((waypointref32_Purge.f a0_0 a0_1 a0_2 a0_3 l0_4 l0_5).bind fun bt393 => ((waypointref32_Equal.f k bt374.1 bt374.2.1 bt374.2.2.1 bt374.2.2.2.1 bt374.2.2.2.2.1 bt374.2.2.2.2.2.1 bt393.1 bt393.2.1 bt393.2.2.1 bt393.2.2.2.1 bt393.2.2.2.2.1 bt393.2.2.2.2.2).bind fun t403 => (if t403 = true then ((lsa_Valid.f k bt374.1 bt374.2.1 bt374.2.2.1 bt374.2.2.2.1 bt374.2.2.2.2.1 bt374.2.2.2.2.2.1).bind fun t404 => (some t404)) else (none)))) else (none)) else (none))) else (none)) else (if bt370.2 = 1 then (if (bt370.1.length : Int) = 0 then (if bt374.2.2.2.2.2.2 = 1 then ((waypointref32_Equal.f k bt374.1 bt374.2.1 bt374.2.2.1 bt374.2.2.2.1 bt374.2.2.2.2.1 bt374.2.2.2.2.2.1 0 0 0 false ([] : List (S43)) ([] : List (S56))).bind fun t389 => (some t389)) else (none)) else (none)) else (none))))))))) else (some true)) = some r := H
  have A4 := Aside0.mk A40
  clear A40
  by_cases c5 : t369 = true
  ·subst c5
   have H1 : ((lsa_Encode.f k a0_0 a0_1 a0_2 a0_3 l0_4 l0_5).bind fun bt370 => ((lsa_Purge.f k a0_0 a0_1 a0_2 a0_3 l0_4 l0_5).bind fun bt374 => ((lsa_Valid.f k a0_0 a0_1 a0_2 a0_3 l0_4 l0_5).bind fun t386 => ((waypointref32_Valid.f k a0_0 a0_1 a0_2 a0_3 l0_4 l0_5).bind fun t387 => (if (t386 != t387) = true then (none) else ((waypointref32_Valid.f k a0_0 a0_1 a0_2 a0_3 l0_4 l0_5).bind fun t388 => (if t388 = true then (if bt370.2 = 0 then ((waypointref32_Encode.f k a0_0 a0_1 a0_2 a0_3 l0_4 l0_5).bind fun t390 => (if (strOfNums bt370.1).toList = (strOfNums t390).toList then (if bt374.2.2.2.2.2.2 = 0 then ((waypointref32_Purge.f a0_0 a0_1 a0_2 a0_3 l0_4 l0_5).bind fun bt393 => ((waypointref32_Equal.f k bt374.1 bt374.2.1 bt374.2.2.1 bt374.2.2.2.1 bt374.2.2.2.2.1 bt374.2.2.2.2.2.1 bt393.1 bt393.2.1 bt393.2.2.1 bt393.2.2.2.1 bt393.2.2.2.2.1 bt393.2.2.2.2.2).bind fun t403 => (if t403 = true then ((lsa_Valid.f k bt374.1 bt374.2.1 bt374.2.2.1 bt374.2.2.2.1 bt374.2.2.2.2.1 bt374.2.2.2.2.2.1).bind fun t404 => (some t404)) else (none)))) else (none)) else (none))) else (none)) else (if bt370.2 = 1 then (if (bt370.1.length : Int) = 0 then (if bt374.2.2.2.2.2.2 = 1 then ((waypointref32_Equal.f k bt374.1 bt374.2.1 bt374.2.2.1 bt374.2.2.2.1 bt374.2.2.2.2.1 bt374.2.2.2.2.2.1 0 0 0 false ([] : List (S43)) ([] : List (S56))).bind fun t389 => (some t389)) else (none)) else (none)) else (none))))))))) = some r := by rw [if_pos rfl] at H; exact H
   clear H
   have H := H1
   clear H1
   replace H := Option.bind_eq_some_iff.mp H
   obtain ⟨⟨t370, t373⟩, A60, H⟩ := H
   replace H : ((lsa_Purge.f k a0_0 a0_1 a0_2 a0_3 l0_4 l0_5).bind fun bt374 => ((lsa_Valid.f k a0_0 a0_1 a0_2 a0_3 l0_4 l0_5).bind fun t386 => ((waypointref32_Valid.f k a0_0 a0_1 a0_2 a0_3 l0_4 l0_5).bind fun t387 => (if (t386 != t387) = true then (none) else ((waypointref32_Valid.f k a0_0 a0_1 a0_2 a0_3 l0_4 l0_5).bind fun t388 => (if t388 = true then (if t373 = 0 then ((waypointref32_Encode.f k a0_0 a0_1 a0_2 a0_3 l0_4 l0_5).bind fun t390 => (if (strOfNums t370).toList = (strOfNums t390).toList then (if bt374.2.2.2.2.2.2 = 0 then ((waypointref32_Purge.f a0_0 a0_1 a0_2 a0_3 l0_4 l0_5).bind fun bt393 => ((waypointref32_Equal.f k bt374.1 bt374.2.1 bt374.2.2.1 bt374.2.2.2.1 bt374.2.2.2.2.1 bt374.2.2.2.2.2.1 bt393.1 bt393.2.1 bt393.2.2.1 bt393.2.2.2.1 bt393.2.2.2.2.1 bt393.2.2.2.2.2).bind fun t403 => (if t403 = true then ((lsa_Valid.f k bt374.1 bt374.2.1 bt374.2.2.1 bt374.2.2.2.1 bt374.2.2.2.2.1 bt374.2.2.2.2.2.1).bind fun t404 => (some t404)) else (none)))) else (none)) else (none))) else (none)) else (if t373 = 1 then (if (t370.length : Int) = 0 then (if bt374.2.2.2.2.2.2 = 1 then ((waypointref32_Equal.f k bt374.1 bt374.2.1 bt374.2.2.1 bt374.2.2.2.1 bt374.2.2.2.2.1 bt374.2.2.2.2.2.1 0 0 0 false ([] : List (S43)) ([] : List (S56))).bind fun t389 => (some t389)) else (none)) else (none)) else (none)))))))) = some r := H
   have A6 := Aside0.mk A60
   clear A60
   replace H := Option.bind_eq_some_iff.mp H
   obtain ⟨⟨t374, t375, t376, t377, t378, t381, t384⟩, A70, H⟩ := H
   replace H : ((lsa_Valid.f k a0_0 a0_1 a0_2 a0_3 l0_4 l0_5).bind fun t386 => ((waypointref32_Valid.f k a0_0 a0_1 a0_2 a0_3 l0_4 l0_5).bind fun t387 => (if (t386 != t387) = true then (none) else ((waypointref32_Valid.f k a0_0 a0_1 a0_2 a0_3 l0_4 l0_5).bind fun t388 => (if t388 = true then (if t373 = 0 then ((waypointref32_Encode.f k a0_0 a0_1 a0_2 a0_3 l0_4 l0_5).bind fun t390 => (if (strOfNums t370).toList = (strOfNums t390).toList then (if t384 = 0 then ((waypointref32_Purge.f a0_0 a0_1 a0_2 a0_3 l0_4 l0_5).bind fun bt393 => ((waypointref32_Equal.f k t374 t375 t376 t377 t378 t381 bt393.1 bt393.2.1 bt393.2.2.1 bt393.2.2.2.1 bt393.2.2.2.2.1 bt393.2.2.2.2.2).bind fun t403 => (if t403 = true then ((lsa_Valid.f k t374 t375 t376 t377 t378 t381).bind fun t404 => (some t404)) else (none)))) else (none)) else (none))) else (none)) else (if t373 = 1 then (if (t370.length : Int) = 0 then (if t384 = 1 then ((waypointref32_Equal.f k t374 t375 t376 t377 t378 t381 0 0 0 false ([] : List (S43)) ([] : List (S56))).bind fun t389 => (some t389)) else (none)) else (none)) else (none))))))) = some r := H
   have A7 := Aside0.mk A70
   clear A70
   replace H := Option.bind_eq_some_iff.mp H
   obtain ⟨t386, A80, H⟩ := H
   replace H : ((waypointref32_Valid.f k a0_0 a0_1 a0_2 a0_3 l0_4 l0_5).bind fun t387 => (if (t386 != t387) = true then (none) else ((waypointref32_Valid.f k a0_0 a0_1 a0_2 a0_3 l0_4 l0_5).bind fun t388 => (if t388 = true then (if t373 = 0 then ((waypointref32_Encode.f k a0_0 a0_1 a0_2 a0_3 l0_4 l0_5).bind fun t390 => (if (strOfNums t370).toList = (strOfNums t390).toList then (if t384 = 0 then ((waypointref32_Purge.f a0_0 a0_1 a0_2 a0_3 l0_4 l0_5).bind fun bt393 => ((waypointref32_Equal.f k t374 t375 t376 t377 t378 t381 bt393.1 bt393.2.1 bt393.2.2.1 bt393.2.2.2.1 bt393.2.2.2.2.1 bt393.2.2.2.2.2).bind fun t403 => (if t403 = true then ((lsa_Valid.f k t374 t375 t376 t377 t378 t381).bind fun t404 => (some t404)) else (none)))) else (none)) else (none))) else (none)) else (if t373 = 1 then (if (t370.length : Int) = 0 then (if t384 = 1 then ((waypointref32_Equal.f k t374 t375 t376 t377 t378 t381 0 0 0 false ([] : List (S43)) ([] : List (S56))).bind fun t389 => (some t389)) else (none)) else (none)) else (none)))))) = some r := H
   have A8 := Aside0.mk A80
   clear A80
   replace H := Option.bind_eq_some_iff.mp H
   obtain ⟨t387, A90, H⟩ := H
   replace H : (if (t386 != t387) = true then (none) else ((waypointref32_Valid.f k a0_0 a0_1 a0_2 a0_3 l0_4 l0_5).bind fun t388 => (if t388 = true then (if t373 = 0 then ((waypointref32_Encode.f k a0_0 a0_1 a0_2 a0_3 l0_4 l0_5).bind fun t390 => (if (strOfNums t370).toList = (strOfNums t390).toList then (if t384 = 0 then ((waypointref32_Purge.f a0_0 a0_1 a0_2 a0_3 l0_4 l0_5).bind fun bt393 => ((waypointref32_Equal.f k t374 t375 t376 t377 t378 t381 bt393.1 bt393.2.1 bt393.2.2.1 bt393.2.2.2.1 bt393.2.2.2.2.1 bt393.2.2.2.2.2).bind fun t403 => (if t403 = true then ((lsa_Valid.f k t374 t375 t376 t377 t378 t381).bind fun t404 => (some t404)) else (none)))) else (none)) else (none))) else (none)) else (if t373 = 1 then (if (t370.length : Int) = 0 then (if t384 = 1 then ((waypointref32_Equal.f k t374 t375 t376 t377 t378 t381 0 0 0 false ([] : List (S43)) ([] : List (S56))).bind fun t389 => (some t389)) else (none)) else (none)) else (none))))) = some r := H
   have A9 := Aside0.mk A90
   clear A90
   by_cases c10 : (t386 != t387) = true
   ·rw [if_pos c10] at H
    exact absurd H (by simp)
   ·rw [if_neg c10] at H
    have c10b0 : (t386 != t387) = false := by simpa using c10
    (try (have c10b1 : decide (t386 = t387) = true := by simpa using c10))
    (try (have c10b2 : (t386 == t387) = true := by simpa using c10))
    clear c10
    replace H := Option.bind_eq_some_iff.mp H
    obtain ⟨t388, A110, H⟩ := H
    replace H : (if t388 = true then (if t373 = 0 then ((waypointref32_Encode.f k a0_0 a0_1 a0_2 a0_3 l0_4 l0_5).bind fun t390 => (if (strOfNums t370).toList = (strOfNums t390).toList then (if t384 = 0 then ((waypointref32_Purge.f a0_0 a0_1 a0_2 a0_3 l0_4 l0_5).bind fun bt393 => ((waypointref32_Equal.f k t374 t375 t376 t377 t378 t381 bt393.1 bt393.2.1 bt393.2.2.1 bt393.2.2.2.1 bt393.2.2.2.2.1 bt393.2.2.2.2.2).bind fun t403 => (if t403 = true then ((lsa_Valid.f k t374 t375 t376 t377 t378 t381).bind fun t404 => (some t404)) else (none)))) else (none)) else (none))) else (none)) else (if t373 = 1 then (if (t370.length : Int) = 0 then (if t384 = 1 then ((waypointref32_Equal.f k t374 t375 t376 t377 t378 t381 0 0 0 false ([] : List (S43)) ([] : List (S56))).bind fun t389 => (some t389)) else (none)) else (none)) else (none))) = some r := H
    have A11 := Aside0.mk A110
    clear A110
    by_cases c12 : t388 = true
    ·subst c12
     have H1 : (if t373 = 0 then ((waypointref32_Encode.f k a0_0 a0_1 a0_2 a0_3 l0_4 l0_5).bind fun t390 => (if (strOfNums t370).toList = (strOfNums t390).toList then (if t384 = 0 then ((waypointref32_Purge.f a0_0 a0_1 a0_2 a0_3 l0_4 l0_5).bind fun bt393 => ((waypointref32_Equal.f k t374 t375 t376 t377 t378 t381 bt393.1 bt393.2.1 bt393.2.2.1 bt393.2.2.2.1 bt393.2.2.2.2.1 bt393.2.2.2.2.2).bind fun t403 => (if t403 = true then ((lsa_Valid.f k t374 t375 t376 t377 t378 t381).bind fun t404 => (some t404)) else (none)))) else (none)) else (none))) else (none)) = some r := by rw [if_pos rfl] at H; exact H
     clear H
     have H := H1
     clear H1
     by_cases c13 : t373 = 0
     ·rw [if_pos c13] at H
      have c13b0 : (t373 == 0) = true := beq_iff_eq.mpr c13
      have c13b1 : (t373 != 0) = false := bne_eq_false_iff_eq.mpr c13
      clear c13
      replace H := Option.bind_eq_some_iff.mp H
      obtain ⟨t390, A140, H⟩ := H
      replace H : (if (strOfNums t370).toList = (strOfNums t390).toList then (if t384 = 0 then ((waypointref32_Purge.f a0_0 a0_1 a0_2 a0_3 l0_4 l0_5).bind fun bt393 => ((waypointref32_Equal.f k t374 t375 t376 t377 t378 t381 bt393.1 bt393.2.1 bt393.2.2.1 bt393.2.2.2.1 bt393.2.2.2.2.1 bt393.2.2.2.2.2).bind fun t403 => (if t403 = true then ((lsa_Valid.f k t374 t375 t376 t377 t378 t381).bind fun t404 => (some t404)) else (none)))) else (none)) else (none)) = some r := H
      have A14 := Aside0.mk A140
      clear A140
      by_cases c15 : (strOfNums t370).toList = (strOfNums t390).toList
      ·rw [if_pos c15] at H
       have c15b0 : ((strOfNums t370).toList == (strOfNums t390).toList) = true := beq_iff_eq.mpr c15
       have c15b1 : ((strOfNums t370).toList != (strOfNums t390).toList) = false := bne_eq_false_iff_eq.mpr c15
       clear c15
       by_cases c16 : t384 = 0
       ·rw [if_pos c16] at H
        have c16b0 : (t384 == 0) = true := beq_iff_eq.mpr c16
        have c16b1 : (t384 != 0) = false := bne_eq_false_iff_eq.mpr c16
        clear c16
        replace H := Option.bind_eq_some_iff.mp H
        obtain ⟨⟨t393, t394, t395, t396, t397, t400⟩, A170, H⟩ := H
        replace H : ((waypointref32_Equal.f k t374 t375 t376 t377 t378 t381 t393 t394 t395 t396 t397 t400).bind fun t403 => (if t403 = true then ((lsa_Valid.f k t374 t375 t376 t377 t378 t381).bind fun t404 => (some t404)) else (none))) = some r := H
        have A17 := Aside0.mk A170
        clear A170
        replace H := Option.bind_eq_some_iff.mp H
        obtain ⟨t403, A180, H⟩ := H
        replace H : (if t403 = true then ((lsa_Valid.f k t374 t375 t376 t377 t378 t381).bind fun t404 => (some t404)) else (none)) = some r := H
        have A18 := Aside0.mk A180
        clear A180
        by_cases c19 : t403 = true
        ·subst c19
         have H1 : ((lsa_Valid.f k t374 t375 t376 t377 t378 t381).bind fun t404 => (some t404)) = some r := by rw [if_pos rfl] at H; exact H
         clear H
         have H := H1
         clear H1
         replace H := Option.bind_eq_some_iff.mp H
         obtain ⟨t404, A200, H⟩ := H
         replace H : (some t404) = some r := H
         have A20 := Aside0.mk A200
         clear A200
         obtain rfl := Option.some.inj H
         go_enter Try.func3, Try.ntmps3
         try go_wp2_with (first | ((with_reducible refine gate_dst (N := 1) rfl ?_); (try (refine gate_guard (by rfl) ?_; dsimp only)); refine box_event ?hg (N := 1) ?hd (cs := #[.int .i64 a0_0, .int .i64 a0_1, .int .i64 a0_2, .bool a0_3, .slice A0_4 l0_4.length c0_4, .slice A0_5 l0_5.length c0_5]) (t := 25) ?hr ?_; (case hd => rfl); (case hg => rfl); (case hr => first | (go_simp; done) | (go_simp; rfl)); intro gb367 hg w21 hbox hb; have BK367 := Aside0.mk (hbox); have GW367 := gs_ HB hg; have GE367 := gs_ HB hg; replace HB := bs_ HB hb; clear hb hbox hg) | ((with_reducible refine gate_callee (f := 10) rfl ?_); refine goesL_ (some 7) rfl rfl Try.func10 (by kernel_rfl) rfl #[] rfl (by (try simp only [List.map_toArray, List.map_cons, List.map_nil]); first | done | rfl | (simp only [List.length_drop, List.length_take]; rfl)) ?_; (with_reducible refine (waypointlaw32_awake.calls  true _ A2.out).mono ?_); rintro e w22 ⟨rfl, hb⟩; refine ⟨_, rfl, ?_⟩; replace BK367 := bb_ BK367 hb; replace HB := Aside0.mk (below_step (by repeat (first | (with_reducible first | exact HB.out | apply bA | apply bN | apply bD | apply bS GE367.out) | exact HB.out)) hb); (try clear hb); (try clear hb2); (try clear hk); (try clear hi); obtain ⟨hcz23_0, hcz23_1, hcz23_2, hcz23_3, hcz23_4, hcz23_5, hfz23_0, hfz23_1, hfz23_2, hfz23_3, hfz23_4, hfz23_5⟩ := c6_ BK367) | ((with_reducible refine gate_callee (f := 11) rfl ?_); refine goesL_ (some 10) rfl rfl Try.func11 (by kernel_rfl) rfl #[.agg #[.int .i64 a0_0, .int .i64 a0_1, .int .i64 a0_2, .bool a0_3, .slice A0_4 l0_4.length c0_4, .slice A0_5 l0_5.length c0_5]] rfl (by (try simp only [List.map_toArray, List.map_cons, List.map_nil]); first | done | rfl | (simp only [List.length_drop, List.length_take]; rfl)) ?_; (with_reducible refine (waypointref32_Few.calls a0_0 a0_1 a0_2 a0_3 _ _ l0_4 _ _ l0_5 true _ ?side1 ?side2 ?side3 ?side4 A4.out).mono ?_); (case side1 => exact cs_ HR0_4 HB); (case side2 => exact HC0_4.out); (case side3 => exact cs_ HR0_5 HB); (case side4 => exact HC0_5.out); rintro e w24 ⟨rfl, hb⟩; refine ⟨_, rfl, ?_⟩; replace BK367 := bb_ BK367 hb; replace HB := Aside0.mk (below_step (by repeat (first | (with_reducible first | exact HB.out | apply bA | apply bN | apply bD | apply bS GE367.out) | exact HB.out)) hb); (try clear hb); (try clear hb2); (try clear hk); (try clear hi); obtain ⟨hcz25_0, hcz25_1, hcz25_2, hcz25_3, hcz25_4, hcz25_5, hfz25_0, hfz25_1, hfz25_2, hfz25_3, hfz25_4, hfz25_5⟩ := c6_ BK367) | ((with_reducible refine gate_callee (f := 12) rfl ?_); refine goesL_ (some 14) rfl rfl Try.func12 (by kernel_rfl) rfl #[.agg #[.int .i64 a0_0, .int .i64 a0_1, .int .i64 a0_2, .bool a0_3, .slice A0_4 l0_4.length c0_4, .slice A0_5 l0_5.length c0_5]] rfl (by (try simp only [List.map_toArray, List.map_cons, List.map_nil]); first | done | rfl | (simp only [List.length_drop, List.length_take]; rfl)) ?_; (with_reducible refine (lsa_Encode.calls k a0_0 a0_1 a0_2 a0_3 _ _ l0_4 _ _ l0_5 t370 t373 _ ?side1 ?side2 ?side3 ?side4 A6.out).mono ?_); (case side1 => exact cs_ HR0_4 HB); (case side2 => exact HC0_4.out); (case side3 => exact cs_ HR0_5 HB); (case side4 => exact HC0_5.out); rintro e w26 ⟨v371, rfl, ho0, hb⟩; refine ⟨_, rfl, ?_⟩; have HO372 := Aside0.mk (Kd.R_lower ho0 (below_size (by repeat (first | (with_reducible first | exact HB.out | apply bA | apply bN | apply bD | apply bS GE367.out) | exact HB.out)))); replace BK367 := bb_ BK367 hb; replace HB := Aside0.mk (below_step (by repeat (first | (with_reducible first | exact HB.out | apply bA | apply bN | apply bD | apply bS GE367.out) | exact HB.out)) hb); (try clear hb); (try clear hb2); (try clear hk); (try clear hi); (try clear ho0); obtain ⟨hcz27_0, hcz27_1, hcz27_2, hcz27_3, hcz27_4, hcz27_5, hfz27_0, hfz27_1, hfz27_2, hfz27_3, hfz27_4, hfz27_5⟩ := c6_ BK367) | ((with_reducible refine gate_callee (f := 13) rfl ?_); refine goesL_ (some 19) rfl rfl Try.func13 (by kernel_rfl) rfl #[.agg #[.int .i64 a0_0, .int .i64 a0_1, .int .i64 a0_2, .bool a0_3, .slice A0_4 l0_4.length c0_4, .slice A0_5 l0_5.length c0_5]] rfl (by (try simp only [List.map_toArray, List.map_cons, List.map_nil]); first | done | rfl | (simp only [List.length_drop, List.length_take]; rfl)) ?_; (with_reducible refine (lsa_Purge.calls k a0_0 a0_1 a0_2 a0_3 _ _ l0_4 _ _ l0_5 t374 t375 t376 t377 t378 t381 t384 _ ?side1 ?side2 ?side3 ?side4 A7.out).mono ?_); (case side1 => exact cs_ HR0_4 HB); (case side2 => exact HC0_4.out); (case side3 => exact cs_ HR0_5 HB); (case side4 => exact HC0_5.out); rintro e w28 ⟨v379, v382, rfl, ho0, ho1, hb⟩; refine ⟨_, rfl, ?_⟩; have HO380 := Aside0.mk (Kd.R_lower ho0 (below_size (by repeat (first | (with_reducible first | exact HB.out | apply bA | apply bN | apply bD | apply bS GE367.out) | exact HB.out)))); have HO383 := Aside0.mk (Kd.R_lower ho1 (below_size (by repeat (first | (with_reducible first | exact HB.out | apply bA | apply bN | apply bD | apply bS GE367.out) | exact HB.out)))); replace HO372 := Aside0.mk (Kd.R_below (by (with_reducible repeat (first | apply Kd.R_alloc | apply Kd.R_drewN | apply Kd.R_drew)); exact HO372.out) hb); replace BK367 := bb_ BK367 hb; replace HB := Aside0.mk (below_step (by repeat (first | (with_reducible first | exact HB.out | apply bA | apply bN | apply bD | apply bS GE367.out) | exact HB.out)) hb); (try clear hb); (try clear hb2); (try clear hk); (try clear hi); (try clear ho0); (try clear ho1)) | ((with_reducible refine gate_dst (N := 5) rfl ?_); (try (refine gate_guard (by rfl) ?_; dsimp only)); refine box_event ?hg (N := 5) ?hd (cs := #[.int .i64 0, .int .i64 0, .int .i64 0, .bool false, .slice none 0 0, .slice none 0 0]) (t := 25) ?hr ?_; (case hd => rfl); (case hg => rfl); (case hr => first | (go_simp; done) | (go_simp; rfl)); intro gb385 hg w29 hbox hb; have BK385 := Aside0.mk (hbox); have GW385 := Aside0.mk ((by rw [hg]; exact (below_size (by repeat (first | (with_reducible first | exact HB.out | apply bA | apply bN | apply bD | apply bS GE367.out) | exact HB.out))) : w.heap.size ≤ gb385)); have GE385 := Aside0.mk ((by rw [hg]; exact (below_size (by repeat (first | (with_reducible first | exact HB.out | apply bA | apply bN | apply bD | apply bS GE367.out) | exact HB.out))) : w.heap.size ≤ gb385)); have NB367_385 := nl_ BK367 hg; have NB385_367 := ng_ BK367 hg; replace HO372 := Aside0.mk (Kd.R_below (by (with_reducible repeat (first | apply Kd.R_alloc | apply Kd.R_drewN | apply Kd.R_drew)); exact HO372.out) hb); replace HO380 := Aside0.mk (Kd.R_below (by (with_reducible repeat (first | apply Kd.R_alloc | apply Kd.R_drewN | apply Kd.R_drew)); exact HO380.out) hb); replace HO383 := Aside0.mk (Kd.R_below (by (with_reducible repeat (first | apply Kd.R_alloc | apply Kd.R_drewN | apply Kd.R_drew)); exact HO383.out) hb); replace BK367 := bb_ BK367 hb; replace HB := Aside0.mk (below_step (by repeat (first | (with_reducible first | exact HB.out | apply bA | apply bN | apply bD | apply bS GE367.out) | exact HB.out)) hb); clear hb hbox hg; have hnb30 := NB385_367.out; have hnc30 := NB367_385.out; obtain ⟨hcz31_0, hcz31_1, hcz31_2, hcz31_3, hcz31_4, hcz31_5, hfz31_0, hfz31_1, hfz31_2, hfz31_3, hfz31_4, hfz31_5⟩ := c6_ BK385; obtain ⟨Ao32, co32, eo32⟩ := Kd.R_slice HO380.out; subst eo32; obtain ⟨Ao33, co33, eo33⟩ := Kd.R_slice HO383.out; subst eo33))
         have n0_ : Aside0 (Kd.R (Kd.int .u8) 5 ((((((w29.setCell ⟨gb385, 0, none⟩ (.int .i64 t374)).setCell ⟨gb385, 1, none⟩ (.int .i64 t375)).setCell ⟨gb385, 2, none⟩ (.int .i64 t376)).setCell ⟨gb385, 3, none⟩ (.bool t377)).setCell ⟨gb385, 4, none⟩ (.slice Ao32 t378.length co32)).setCell ⟨gb385, 5, none⟩ (.slice Ao33 t381.length co33)) w.heap.size (fun _ => True) v371 t370) := ⟨by (with_reducible repeat (first | apply Kd.R_alloc | apply Kd.R_drewN | apply Kd.R_drew)); exact Kd.R_mono (Kd.R_far (p := ⟨gb385, 5, none⟩) (Kd.R_far (p := ⟨gb385, 4, none⟩) (Kd.R_far (p := ⟨gb385, 3, none⟩) (Kd.R_far (p := ⟨gb385, 2, none⟩) (Kd.R_far (p := ⟨gb385, 1, none⟩) (Kd.R_far (p := ⟨gb385, 0, none⟩) (Kd.R_types HO372.out BK385.out (by decide)) (fun _ hk => hk.2) (.int .i64 t374)) (fun _ hk => hk.2) (.int .i64 t375)) (fun _ hk => hk.2) (.int .i64 t376)) (fun _ hk => hk.2) (.bool t377)) (fun _ hk => hk.2) (.slice Ao32 t378.length co32)) (fun _ hk => hk.2) (.slice Ao33 t381.length co33)) (fun _ hk => trivial)⟩
         have n1_ : Aside0 (Kd.R k43 43 ((((((w29.setCell ⟨gb385, 0, none⟩ (.int .i64 t374)).setCell ⟨gb385, 1, none⟩ (.int .i64 t375)).setCell ⟨gb385, 2, none⟩ (.int .i64 t376)).setCell ⟨gb385, 3, none⟩ (.bool t377)).setCell ⟨gb385, 4, none⟩ (.slice Ao32 t378.length co32)).setCell ⟨gb385, 5, none⟩ (.slice Ao33 t381.length co33)) w.heap.size (fun _ => True) (.slice Ao32 t378.length co32) t378) := ⟨by (with_reducible repeat (first | apply Kd.R_alloc | apply Kd.R_drewN | apply Kd.R_drew)); exact Kd.R_mono (Kd.R_far (p := ⟨gb385, 5, none⟩) (Kd.R_far (p := ⟨gb385, 4, none⟩) (Kd.R_far (p := ⟨gb385, 3, none⟩) (Kd.R_far (p := ⟨gb385, 2, none⟩) (Kd.R_far (p := ⟨gb385, 1, none⟩) (Kd.R_far (p := ⟨gb385, 0, none⟩) (Kd.R_types HO380.out BK385.out (by decide)) (fun _ hk => hk.2) (.int .i64 t374)) (fun _ hk => hk.2) (.int .i64 t375)) (fun _ hk => hk.2) (.int .i64 t376)) (fun _ hk => hk.2) (.bool t377)) (fun _ hk => hk.2) (.slice Ao32 t378.length co32)) (fun _ hk => hk.2) (.slice Ao33 t381.length co33)) (fun _ hk => trivial)⟩
         have n2_ : Aside0 (Kd.R k56 56 ((((((w29.setCell ⟨gb385, 0, none⟩ (.int .i64 t374)).setCell ⟨gb385, 1, none⟩ (.int .i64 t375)).setCell ⟨gb385, 2, none⟩ (.int .i64 t376)).setCell ⟨gb385, 3, none⟩ (.bool t377)).setCell ⟨gb385, 4, none⟩ (.slice Ao32 t378.length co32)).setCell ⟨gb385, 5, none⟩ (.slice Ao33 t381.length co33)) w.heap.size (fun _ => True) (.slice Ao33 t381.length co33) t381) := ⟨by (with_reducible repeat (first | apply Kd.R_alloc | apply Kd.R_drewN | apply Kd.R_drew)); exact Kd.R_mono (Kd.R_far (p := ⟨gb385, 5, none⟩) (Kd.R_far (p := ⟨gb385, 4, none⟩) (Kd.R_far (p := ⟨gb385, 3, none⟩) (Kd.R_far (p := ⟨gb385, 2, none⟩) (Kd.R_far (p := ⟨gb385, 1, none⟩) (Kd.R_far (p := ⟨gb385, 0, none⟩) (Kd.R_types HO383.out BK385.out (by decide)) (fun _ hk => hk.2) (.int .i64 t374)) (fun _ hk => hk.2) (.int .i64 t375)) (fun _ hk => hk.2) (.int .i64 t376)) (fun _ hk => hk.2) (.bool t377)) (fun _ hk => hk.2) (.slice Ao32 t378.length co32)) (fun _ hk => hk.2) (.slice Ao33 t381.length co33)) (fun _ hk => trivial)⟩
         have n3_ : Aside0 (((((((w29.setCell ⟨gb385, 0, none⟩ (.int .i64 t374)).setCell ⟨gb385, 1, none⟩ (.int .i64 t375)).setCell ⟨gb385, 2, none⟩ (.int .i64 t376)).setCell ⟨gb385, 3, none⟩ (.bool t377)).setCell ⟨gb385, 4, none⟩ (.slice Ao32 t378.length co32)).setCell ⟨gb385, 5, none⟩ (.slice Ao33 t381.length co33)).heap[gb367]? = some (.cells #[.int .i64 a0_0, .int .i64 a0_1, .int .i64 a0_2, .bool a0_3, .slice A0_4 l0_4.length c0_4, .slice A0_5 l0_5.length c0_5] 25 (0, 0))) := ⟨by (with_reducible repeat (first | refine blk_drewN ?_ _ | refine blk_drew ?_ | refine blk_alloc ?_ _)); refine blk_far ?_ NB367_385.out _; (with_reducible repeat (first | refine blk_drewN ?_ _ | refine blk_drew ?_ | refine blk_alloc ?_ _)); refine blk_far ?_ NB367_385.out _; (with_reducible repeat (first | refine blk_drewN ?_ _ | refine blk_drew ?_ | refine blk_alloc ?_ _)); refine blk_far ?_ NB367_385.out _; (with_reducible repeat (first | refine blk_drewN ?_ _ | refine blk_drew ?_ | refine blk_alloc ?_ _)); refine blk_far ?_ NB367_385.out _; (with_reducible repeat (first | refine blk_drewN ?_ _ | refine blk_drew ?_ | refine blk_alloc ?_ _)); refine blk_far ?_ NB367_385.out _; (with_reducible repeat (first | refine blk_drewN ?_ _ | refine blk_drew ?_ | refine blk_alloc ?_ _)); refine blk_far ?_ NB367_385.out _; (with_reducible repeat (first | refine blk_drewN ?_ _ | refine blk_drew ?_ | refine blk_alloc ?_ _)); exact BK367.out⟩
         have n4_ : Aside0 (((((((w29.setCell ⟨gb385, 0, none⟩ (.int .i64 t374)).setCell ⟨gb385, 1, none⟩ (.int .i64 t375)).setCell ⟨gb385, 2, none⟩ (.int .i64 t376)).setCell ⟨gb385, 3, none⟩ (.bool t377)).setCell ⟨gb385, 4, none⟩ (.slice Ao32 t378.length co32)).setCell ⟨gb385, 5, none⟩ (.slice Ao33 t381.length co33)).heap[gb385]? = some (.cells #[.int .i64 t374, .int .i64 t375, .int .i64 t376, .bool t377, .slice Ao32 t378.length co32, .slice Ao33 t381.length co33] 25 (0, 0))) := ⟨by (with_reducible repeat (first | refine blk_drewN ?_ _ | refine blk_drew ?_ | refine blk_alloc ?_ _)); refine blk_put (cs := #[.int .i64 t374, .int .i64 t375, .int .i64 t376, .bool t377, .slice Ao32 t378.length co32, .slice none 0 0]) ?_ 5 _ rfl; (with_reducible repeat (first | refine blk_drewN ?_ _ | refine blk_drew ?_ | refine blk_alloc ?_ _)); refine blk_put (cs := #[.int .i64 t374, .int .i64 t375, .int .i64 t376, .bool t377, .slice none 0 0, .slice none 0 0]) ?_ 4 _ rfl; (with_reducible repeat (first | refine blk_drewN ?_ _ | refine blk_drew ?_ | refine blk_alloc ?_ _)); refine blk_put (cs := #[.int .i64 t374, .int .i64 t375, .int .i64 t376, .bool false, .slice none 0 0, .slice none 0 0]) ?_ 3 _ rfl; (with_reducible repeat (first | refine blk_drewN ?_ _ | refine blk_drew ?_ | refine blk_alloc ?_ _)); refine blk_put (cs := #[.int .i64 t374, .int .i64 t375, .int .i64 0, .bool false, .slice none 0 0, .slice none 0 0]) ?_ 2 _ rfl; (with_reducible repeat (first | refine blk_drewN ?_ _ | refine blk_drew ?_ | refine blk_alloc ?_ _)); refine blk_put (cs := #[.int .i64 t374, .int .i64 0, .int .i64 0, .bool false, .slice none 0 0, .slice none 0 0]) ?_ 1 _ rfl; (with_reducible repeat (first | refine blk_drewN ?_ _ | refine blk_drew ?_ | refine blk_alloc ?_ _)); refine blk_put (cs := #[.int .i64 0, .int .i64 0, .int .i64 0, .bool false, .slice none 0 0, .slice none 0 0]) ?_ 0 _ rfl; (with_reducible repeat (first | refine blk_drewN ?_ _ | refine blk_drew ?_ | refine blk_alloc ?_ _)); exact BK385.out⟩
         have n5_ : Aside0 (Below w.heap.size w ((((((w29.setCell ⟨gb385, 0, none⟩ (.int .i64 t374)).setCell ⟨gb385, 1, none⟩ (.int .i64 t375)).setCell ⟨gb385, 2, none⟩ (.int .i64 t376)).setCell ⟨gb385, 3, none⟩ (.bool t377)).setCell ⟨gb385, 4, none⟩ (.slice Ao32 t378.length co32)).setCell ⟨gb385, 5, none⟩ (.slice Ao33 t381.length co33))) := ⟨by repeat (first | (with_reducible first | exact HB.out | apply bA | apply bN | apply bD | apply bS GE367.out | apply bS GE385.out) | exact HB.out)⟩
         (try clear HO372)
         (try clear HO380)
         (try clear HO383)
         (try clear BK367)
         (try clear BK385)
         (try clear HB)
         generalize ((((((w29.setCell ⟨gb385, 0, none⟩ (.int .i64 t374)).setCell ⟨gb385, 1, none⟩ (.int .i64 t375)).setCell ⟨gb385, 2, none⟩ (.int .i64 t376)).setCell ⟨gb385, 3, none⟩ (.bool t377)).setCell ⟨gb385, 4, none⟩ (.slice Ao32 t378.length co32)).setCell ⟨gb385, 5, none⟩ (.slice Ao33 t381.length co33)) = w34 at n0_ n1_ n2_ n3_ n4_ n5_ ⊢
         have HO372 := n0_
         have HO380 := n1_
         have HO383 := n2_
         have BK367 := n3_
         have BK385 := n4_
         have HB := n5_
         clear n0_ n1_ n2_ n3_ n4_ n5_
         replace HO372 := Aside0.mk (Kd.R_drew HO372.out)
         replace HO380 := Aside0.mk (Kd.R_drew HO380.out)
         replace HO383 := Aside0.mk (Kd.R_drew HO383.out)
         replace BK367 := Aside0.mk (blk_drew BK367.out)
         replace BK385 := Aside0.mk (blk_drew BK385.out)
         replace HB := Aside0.mk (below_drew1 HB.out)
         refine start_ (n := 5) (S := fun w' => w'.cell? ⟨gb367, 0, none⟩ = some (.int .i64 a0_0) ∧ w'.cell? ⟨gb367, 1, none⟩ = some (.int .i64 a0_1) ∧ w'.cell? ⟨gb367, 2, none⟩ = some (.int .i64 a0_2) ∧ w'.cell? ⟨gb367, 3, none⟩ = some (.bool a0_3) ∧ w'.cell? ⟨gb367, 4, none⟩ = some (.slice A0_4 l0_4.length c0_4) ∧ w'.cell? ⟨gb367, 5, none⟩ = some (.slice A0_5 l0_5.length c0_5)) (ds := []) #[false, false, false, false, false] (by kernel_rfl) rfl rfl ⟨(blk_cell BK367.out 0).trans rfl, (blk_cell BK367.out 1).trans rfl, (blk_cell BK367.out 2).trans rfl, (blk_cell BK367.out 3).trans rfl, (blk_cell BK367.out 4).trans rfl, (blk_cell BK367.out 5).trans rfl⟩ (fun hHeld => ?_)
         generalize w34.drew = w35 at HO372 HO380 HO383 BK367 BK385 HB hHeld ⊢
         refine take_ (i := 0) (N := some 22) (v := ?_) (a' := ?_) #[true, false, false, false, false] rfl rfl (by kernel_rfl) (fun _ _ _ h => h) (Or.inl ⟨by rfl, ?_⟩) hHeld ?_ ?_
         rotate_left
         ·rintro w' ⟨s0, s1, s2, s3, s4, s5⟩
          go_simp
          with_reducible rfl
         rotate_left
         ·simp only [Act.put, List.setIfInBounds_toArray, List.set_cons_zero, List.set_cons_succ, i64_w, i32_w]
          rfl
         refine take_ (i := 2) (N := some 24) (v := ?_) (a' := ?_) #[true, false, true, false, false] rfl rfl (by kernel_rfl) (fun _ _ _ h => h) (Or.inl ⟨by rfl, ?_⟩) hHeld ?_ ?_
         rotate_left
         ·rintro w' ⟨s0, s1, s2, s3, s4, s5⟩
          go_simp
          with_reducible rfl
         rotate_left
         ·simp only [Act.put, List.setIfInBounds_toArray, List.set_cons_zero, List.set_cons_succ, i64_w, i32_w]
          rfl
         refine one_ (i := 1) (N := some 23) #[true, true, true, false, false] rfl rfl (by kernel_rfl) (by decide) (fun K hK => ?_)
         refine goes_ Try.func14 (by kernel_rfl) rfl #[.agg #[.int .i64 a0_0, .int .i64 a0_1, .int .i64 a0_2, .bool a0_3, .slice A0_4 l0_4.length c0_4, .slice A0_5 l0_5.length c0_5]] (by rfl) rfl rfl (by (try simp only [List.map_toArray, List.map_cons, List.map_nil]); first | done | rfl | (simp only [List.length_drop, List.length_take]; rfl)) ?_
         with_reducible refine (lsa_Valid.calls k a0_0 a0_1 a0_2 a0_3 _ _ l0_4 _ _ l0_5 t386 _ ?side1 ?side2 ?side3 ?side4 A8.out).mono ?_
         (case side1 => exact cs_ HR0_4 HB)
         (case side2 => exact HC0_4.out)
         (case side3 => exact cs_ HR0_5 HB)
         (case side4 => exact HC0_5.out)
         rintro e w36 ⟨rfl, hb⟩
         refine ⟨_, rfl, ?_⟩
         replace HO372 := Aside0.mk (Kd.R_below (by (with_reducible repeat (first | apply Kd.R_alloc | apply Kd.R_drewN | apply Kd.R_drew)); exact HO372.out) hb)
         replace HO380 := Aside0.mk (Kd.R_below (by (with_reducible repeat (first | apply Kd.R_alloc | apply Kd.R_drewN | apply Kd.R_drew)); exact HO380.out) hb)
         replace HO383 := Aside0.mk (Kd.R_below (by (with_reducible repeat (first | apply Kd.R_alloc | apply Kd.R_drewN | apply Kd.R_drew)); exact HO383.out) hb)
         replace BK367 := bb_ BK367 hb
         replace BK385 := bb_ BK385 hb
         replace HB := Aside0.mk (below_step (by repeat (first | (with_reducible first | exact HB.out | apply bA | apply bN | apply bD | apply bS GE367.out | apply bS GE385.out) | exact HB.out)) hb)
         (try clear hb)
         (try clear hb2)
         (try clear hk)
         (try clear hi)
         refine hK.out _ _ ⟨(blk_cell BK367.out 0).trans rfl, (blk_cell BK367.out 1).trans rfl, (blk_cell BK367.out 2).trans rfl, (blk_cell BK367.out 3).trans rfl, (blk_cell BK367.out 4).trans rfl, (blk_cell BK367.out 5).trans rfl⟩ (fun hHeld => ?_)
         clear hK K
         refine norm_ (a' := ?_) ?_ ?_
         rotate_left
         ·show Act.put _ (some 23) _ = _
          simp only [Act.put, List.setIfInBounds_toArray, List.set_cons_zero, List.set_cons_succ, i64_w, i32_w]
          rfl
         refine one_ (i := 3) (N := some 25) #[true, true, true, true, false] rfl rfl (by kernel_rfl) (by decide) (fun K hK => ?_)
         refine goes_ Try.func15 (by kernel_rfl) rfl #[.agg #[.int .i64 a0_0, .int .i64 a0_1, .int .i64 a0_2, .bool a0_3, .slice A0_4 l0_4.length c0_4, .slice A0_5 l0_5.length c0_5]] (by rfl) rfl rfl (by (try simp only [List.map_toArray, List.map_cons, List.map_nil]); first | done | rfl | (simp only [List.length_drop, List.length_take]; rfl)) ?_
         with_reducible refine (waypointref32_Valid.calls k a0_0 a0_1 a0_2 a0_3 _ _ l0_4 _ _ l0_5 t387 _ ?side1 ?side2 ?side3 ?side4 A9.out).mono ?_
         (case side1 => exact cs_ HR0_4 HB)
         (case side2 => exact HC0_4.out)
         (case side3 => exact cs_ HR0_5 HB)
         (case side4 => exact HC0_5.out)
         rintro e w37 ⟨rfl, hb⟩
         refine ⟨_, rfl, ?_⟩
         replace HO372 := Aside0.mk (Kd.R_below (by (with_reducible repeat (first | apply Kd.R_alloc | apply Kd.R_drewN | apply Kd.R_drew)); exact HO372.out) hb)
         replace HO380 := Aside0.mk (Kd.R_below (by (with_reducible repeat (first | apply Kd.R_alloc | apply Kd.R_drewN | apply Kd.R_drew)); exact HO380.out) hb)
         replace HO383 := Aside0.mk (Kd.R_below (by (with_reducible repeat (first | apply Kd.R_alloc | apply Kd.R_drewN | apply Kd.R_drew)); exact HO383.out) hb)
         replace BK367 := bb_ BK367 hb
         replace BK385 := bb_ BK385 hb
         replace HB := Aside0.mk (below_step (by repeat (first | (with_reducible first | exact HB.out | apply bA | apply bN | apply bD | apply bS GE367.out | apply bS GE385.out) | exact HB.out)) hb)
         (try clear hb)
         (try clear hb2)
         (try clear hk)
         (try clear hi)
         refine hK.out _ _ ⟨(blk_cell BK367.out 0).trans rfl, (blk_cell BK367.out 1).trans rfl, (blk_cell BK367.out 2).trans rfl, (blk_cell BK367.out 3).trans rfl, (blk_cell BK367.out 4).trans rfl, (blk_cell BK367.out 5).trans rfl⟩ (fun hHeld => ?_)
         clear hK K
         refine norm_ (a' := ?_) ?_ ?_
         rotate_left
         ·show Act.put _ (some 25) _ = _
          simp only [Act.put, List.setIfInBounds_toArray, List.set_cons_zero, List.set_cons_succ, i64_w, i32_w]
          rfl
         refine pure_ (i := 4) (N := some 26) (v := ?_) (a' := ?_) #[true, true, true, true, true] rfl rfl (by kernel_rfl) (fun _ _ _ h => h) (Or.inl ⟨by rfl, ?_⟩) ?_ ?_
         rotate_left
         ·intro w'
          go_simp
          with_reducible rfl
         rotate_left
         ·simp only [Act.put, List.setIfInBounds_toArray, List.set_cons_zero, List.set_cons_succ, i64_w, i32_w]
          rfl
         refine done_ (by kernel_rfl) ?_
         obtain ⟨hcz38_0, hcz38_1, hcz38_2, hcz38_3, hcz38_4, hcz38_5, hfz38_0, hfz38_1, hfz38_2, hfz38_3, hfz38_4, hfz38_5⟩ := c6_ BK367
         try go_wp2_with (first | ((with_reducible refine gate_callee (f := 15) rfl ?_); refine goesL_ (some 28) rfl rfl Try.func15 (by kernel_rfl) rfl #[.agg #[.int .i64 a0_0, .int .i64 a0_1, .int .i64 a0_2, .bool a0_3, .slice A0_4 l0_4.length c0_4, .slice A0_5 l0_5.length c0_5]] rfl (by (try simp only [List.map_toArray, List.map_cons, List.map_nil]); first | done | rfl | (simp only [List.length_drop, List.length_take]; rfl)) ?_; (with_reducible refine (waypointref32_Valid.calls k a0_0 a0_1 a0_2 a0_3 _ _ l0_4 _ _ l0_5 true _ ?side1 ?side2 ?side3 ?side4 A11.out).mono ?_); (case side1 => exact cs_ HR0_4 HB); (case side2 => exact HC0_4.out); (case side3 => exact cs_ HR0_5 HB); (case side4 => exact HC0_5.out); rintro e w39 ⟨rfl, hb⟩; refine ⟨_, rfl, ?_⟩; replace HO372 := Aside0.mk (Kd.R_below (by (with_reducible repeat (first | apply Kd.R_alloc | apply Kd.R_drewN | apply Kd.R_drew)); exact HO372.out) hb); replace HO380 := Aside0.mk (Kd.R_below (by (with_reducible repeat (first | apply Kd.R_alloc | apply Kd.R_drewN | apply Kd.R_drew)); exact HO380.out) hb); replace HO383 := Aside0.mk (Kd.R_below (by (with_reducible repeat (first | apply Kd.R_alloc | apply Kd.R_drewN | apply Kd.R_drew)); exact HO383.out) hb); replace BK367 := bb_ BK367 hb; replace BK385 := bb_ BK385 hb; replace HB := Aside0.mk (below_step (by repeat (first | (with_reducible first | exact HB.out | apply bA | apply bN | apply bD | apply bS GE367.out | apply bS GE385.out) | exact HB.out)) hb); (try clear hb); (try clear hb2); (try clear hk); (try clear hi)))
         replace HO372 := Aside0.mk (Kd.R_drew HO372.out)
         replace HO380 := Aside0.mk (Kd.R_drew HO380.out)
         replace HO383 := Aside0.mk (Kd.R_drew HO383.out)
         replace BK367 := Aside0.mk (blk_drew BK367.out)
         replace BK385 := Aside0.mk (blk_drew BK385.out)
         replace HB := Aside0.mk (below_drew1 HB.out)
         skip
         refine start_ (n := 25) (S := fun w' => w'.cell? ⟨gb367, 0, none⟩ = some (.int .i64 a0_0) ∧ w'.cell? ⟨gb367, 1, none⟩ = some (.int .i64 a0_1) ∧ w'.cell? ⟨gb367, 2, none⟩ = some (.int .i64 a0_2) ∧ w'.cell? ⟨gb367, 3, none⟩ = some (.bool a0_3) ∧ w'.cell? ⟨gb367, 4, none⟩ = some (.slice A0_4 l0_4.length c0_4) ∧ w'.cell? ⟨gb367, 5, none⟩ = some (.slice A0_5 l0_5.length c0_5) ∧ w'.cell? ⟨gb385, 0, none⟩ = some (.int .i64 t374) ∧ w'.cell? ⟨gb385, 1, none⟩ = some (.int .i64 t375) ∧ w'.cell? ⟨gb385, 2, none⟩ = some (.int .i64 t376) ∧ w'.cell? ⟨gb385, 3, none⟩ = some (.bool t377) ∧ w'.cell? ⟨gb385, 4, none⟩ = some (.slice Ao32 t378.length co32) ∧ w'.cell? ⟨gb385, 5, none⟩ = some (.slice Ao33 t381.length co33) ∧ (convert 28 9 v371).run Try.prog w' = .ok (.string (strOfNums t370)) w') (ds := []) #[false, false, false, false, false, false, false, false, false, false, false, false, false, false, false, false, false, false, false, false, false, false, false, false, false] (by kernel_rfl) rfl rfl ⟨(blk_cell BK367.out 0).trans rfl, (blk_cell BK367.out 1).trans rfl, (blk_cell BK367.out 2).trans rfl, (blk_cell BK367.out 3).trans rfl, (blk_cell BK367.out 4).trans rfl, (blk_cell BK367.out 5).trans rfl, (blk_cell BK385.out 0).trans rfl, (blk_cell BK385.out 1).trans rfl, (blk_cell BK385.out 2).trans rfl, (blk_cell BK385.out 3).trans rfl, (blk_cell BK385.out 4).trans rfl, (blk_cell BK385.out 5).trans rfl, own_string (P := Try.prog) Try.underlying28 Try.underlying5 Try.underlying9 (Kd.own_of_R (Kd.R_drew HO372.out))⟩ (fun hHeld => ?_); refine with_tabW waypointlaw32_LsaValid.tab11 waypointlaw32_LsaValid.bits11 (fun HT_ HW_ => ?_)
         generalize w39.drew = w40 at HO372 HO380 HO383 BK367 BK385 HB hHeld ⊢
         refine pz 0 46 HT_ rfl rfl (by kernel_rfl) (fun _ _ _ h => h) (Or.inl ⟨by rfl, by intro w'; go_simp; with_reducible rfl⟩) (by simp only [Act.put, List.setIfInBounds_toArray, List.set_cons_zero, List.set_cons_succ, i64_w, i32_w]; rfl) ?_
         refine pz 1 47 HT_ rfl rfl (by kernel_rfl) (fun _ _ _ h => h) (Or.inl ⟨by rfl, by intro w'; go_simp; with_reducible rfl⟩) (by simp only [Act.put, List.setIfInBounds_toArray, List.set_cons_zero, List.set_cons_succ, i64_w, i32_w]; rfl) ?_
         refine pz 2 48 HT_ rfl rfl (by kernel_rfl) (fun _ _ _ h => h) (Or.inl ⟨by rfl, by intro w'; go_simp; with_reducible rfl⟩) (by simp only [Act.put, List.setIfInBounds_toArray, List.set_cons_zero, List.set_cons_succ, i64_w, i32_w]; rfl) ?_
         refine pz 3 49 HT_ rfl rfl (by kernel_rfl) (fun _ _ _ h => h) (Or.inl ⟨by rfl, by intro w'; go_simp; with_reducible rfl⟩) (by simp only [Act.put, List.setIfInBounds_toArray, List.set_cons_zero, List.set_cons_succ, i64_w, i32_w]; rfl) ?_
         refine tz 4 50 HT_ HW_ rfl rfl (by kernel_rfl) (fun _ _ _ h => h) (Or.inl ⟨by rfl, by rintro w' ⟨s0, s1, s2, s3, s4, s5, s6, s7, s8, s9, s10, s11, s12⟩; go_simp; with_reducible rfl⟩) hHeld (by simp only [Act.put, List.setIfInBounds_toArray, List.set_cons_zero, List.set_cons_succ, i64_w, i32_w]; rfl) ?_
         refine tz 5 51 HT_ HW_ rfl rfl (by kernel_rfl) (fun _ _ _ h => h) (Or.inl ⟨by rfl, by rintro w' ⟨s0, s1, s2, s3, s4, s5, s6, s7, s8, s9, s10, s11, s12⟩; go_simp; with_reducible rfl⟩) hHeld (by simp only [Act.put, List.setIfInBounds_toArray, List.set_cons_zero, List.set_cons_succ, i64_w, i32_w]; rfl) ?_
         refine one_ (i := 6) (N := some 52) #[true, true, true, true, true, true, true, false, false, false, false, false, false, false, false, false, false, false, false, false, false, false, false, false, false] rfl rfl (one_of HT_.out (by kernel_rfl)) (by decide) (fun K hK => ?_)
         refine goes_ Try.func17 (by kernel_rfl) rfl #[.agg #[.int .i64 a0_0, .int .i64 a0_1, .int .i64 a0_2, .bool a0_3, .slice A0_4 l0_4.length c0_4, .slice A0_5 l0_5.length c0_5]] (by rfl) rfl rfl (by (try simp only [List.map_toArray, List.map_cons, List.map_nil]); first | done | rfl | (simp only [List.length_drop, List.length_take]; rfl)) ?_
         with_reducible refine (waypointref32_Encode.calls k a0_0 a0_1 a0_2 a0_3 _ _ l0_4 _ _ l0_5 t390 _ ?side1 ?side2 ?side3 ?side4 A14.out).mono ?_
         (case side1 => exact cs_ HR0_4 HB)
         (case side2 => exact HC0_4.out)
         (case side3 => exact cs_ HR0_5 HB)
         (case side4 => exact HC0_5.out)
         rintro e w42 ⟨v391, rfl, ho0, hb⟩
         refine ⟨_, rfl, ?_⟩
         have HO392 := Aside0.mk (Kd.R_lower (Kd.R_new' ho0 (Kd.R_lt (by (with_reducible repeat (first | apply Kd.R_alloc | apply Kd.R_drewN | apply Kd.R_drew)); exact HO372.out))) (below_size (by repeat (first | (with_reducible first | exact HB.out | apply bA | apply bN | apply bD | apply bS GE367.out | apply bS GE385.out) | exact HB.out))))
         replace HO372 := Aside0.mk (Kd.R_elder' (by (with_reducible repeat (first | apply Kd.R_alloc | apply Kd.R_drewN | apply Kd.R_drew)); exact HO372.out) (Kd.R_base ho0) hb)
         replace HO380 := Aside0.mk (Kd.R_below (by (with_reducible repeat (first | apply Kd.R_alloc | apply Kd.R_drewN | apply Kd.R_drew)); exact HO380.out) hb)
         replace HO383 := Aside0.mk (Kd.R_below (by (with_reducible repeat (first | apply Kd.R_alloc | apply Kd.R_drewN | apply Kd.R_drew)); exact HO383.out) hb)
         replace BK367 := bb_ BK367 hb
         replace BK385 := bb_ BK385 hb
         replace HB := Aside0.mk (below_step (by repeat (first | (with_reducible first | exact HB.out | apply bA | apply bN | apply bD | apply bS GE367.out | apply bS GE385.out) | exact HB.out)) hb)
         (try clear hb)
         (try clear hb2)
         (try clear hk)
         (try clear hi)
         (try clear ho0)
         refine hK.out _ _ ⟨(blk_cell BK367.out 0).trans rfl, (blk_cell BK367.out 1).trans rfl, (blk_cell BK367.out 2).trans rfl, (blk_cell BK367.out 3).trans rfl, (blk_cell BK367.out 4).trans rfl, (blk_cell BK367.out 5).trans rfl, (blk_cell BK385.out 0).trans rfl, (blk_cell BK385.out 1).trans rfl, (blk_cell BK385.out 2).trans rfl, (blk_cell BK385.out 3).trans rfl, (blk_cell BK385.out 4).trans rfl, (blk_cell BK385.out 5).trans rfl, own_string (P := Try.prog) Try.underlying28 Try.underlying5 Try.underlying9 (Kd.own_of_R HO372.out)⟩ (fun hHeld => ?_)
         clear hK K
         refine norm_ (a' := ?_) ?_ ?_
         rotate_left
         ·show Act.put _ (some 52) _ = _
          simp only [Act.put, List.setIfInBounds_toArray, List.set_cons_zero, List.set_cons_succ, i64_w, i32_w]
          rfl
         refine one_ (i := 7) (N := some 53) #[true, true, true, true, true, true, true, true, false, false, false, false, false, false, false, false, false, false, false, false, false, false, false, false, false] rfl rfl (one_of HT_.out (by kernel_rfl)) (by decide) (fun K hK => ?_)
         have hcv43 := own_string (P := Try.prog) Try.underlying28 Try.underlying5 Try.underlying9 (Kd.own_of_R HO392.out)
         refine value_ (w1 := ?_) (v := ?_) (by rfl) rfl ?_ ?_
         rotate_left 2
         ·go_simp
          constructor
          ·rfl
          ·rfl
         clear hcv43
         refine hK.out _ _ ⟨(blk_cell BK367.out 0).trans rfl, (blk_cell BK367.out 1).trans rfl, (blk_cell BK367.out 2).trans rfl, (blk_cell BK367.out 3).trans rfl, (blk_cell BK367.out 4).trans rfl, (blk_cell BK367.out 5).trans rfl, (blk_cell BK385.out 0).trans rfl, (blk_cell BK385.out 1).trans rfl, (blk_cell BK385.out 2).trans rfl, (blk_cell BK385.out 3).trans rfl, (blk_cell BK385.out 4).trans rfl, (blk_cell BK385.out 5).trans rfl, own_string (P := Try.prog) Try.underlying28 Try.underlying5 Try.underlying9 (Kd.own_of_R HO372.out)⟩ (fun hHeld => ?_)
         clear hK K
         refine norm_ (a' := ?_) ?_ ?_
         rotate_left
         ·show Act.put _ (some 53) _ = _
          simp only [Act.put, List.setIfInBounds_toArray, List.set_cons_zero, List.set_cons_succ, i64_w, i32_w]
          rfl
         refine pz 8 54 HT_ rfl rfl (by kernel_rfl) (fun _ _ _ h => h) (Or.inl ⟨by rfl, by intro w'; go_simp; with_reducible rfl⟩) (by simp only [Act.put, List.setIfInBounds_toArray, List.set_cons_zero, List.set_cons_succ, i64_w, i32_w]; rfl) ?_
         refine pz 9 55 HT_ rfl rfl (by kernel_rfl) (fun _ _ _ h => h) (Or.inl ⟨by rfl, by intro w'; go_simp; with_reducible rfl⟩) (by simp only [Act.put, List.setIfInBounds_toArray, List.set_cons_zero, List.set_cons_succ, i64_w, i32_w]; rfl) ?_
         refine pz 10 56 HT_ rfl rfl (by kernel_rfl) (fun _ _ _ h => h) (Or.inl ⟨by rfl, by intro w'; go_simp; with_reducible rfl⟩) (by simp only [Act.put, List.setIfInBounds_toArray, List.set_cons_zero, List.set_cons_succ, i64_w, i32_w]; rfl) ?_
         refine pz 11 57 HT_ rfl rfl (by kernel_rfl) (fun _ _ _ h => h) (Or.inl ⟨by rfl, by intro w'; go_simp; with_reducible rfl⟩) (by simp only [Act.put, List.setIfInBounds_toArray, List.set_cons_zero, List.set_cons_succ, i64_w, i32_w]; rfl) ?_
         refine pz 12 58 HT_ rfl rfl (by kernel_rfl) (fun _ _ _ h => h) (Or.inl ⟨by rfl, by intro w'; go_simp; with_reducible rfl⟩) (by simp only [Act.put, List.setIfInBounds_toArray, List.set_cons_zero, List.set_cons_succ, i64_w, i32_w]; rfl) ?_
         refine pz 13 59 HT_ rfl rfl (by kernel_rfl) (fun _ _ _ h => h) (Or.inl ⟨by rfl, by intro w'; go_simp; with_reducible rfl⟩) (by simp only [Act.put, List.setIfInBounds_toArray, List.set_cons_zero, List.set_cons_succ, i64_w, i32_w]; rfl) ?_
         refine pz 14 60 HT_ rfl rfl (by kernel_rfl) (fun _ _ _ h => h) (Or.inl ⟨by rfl, by intro w'; go_simp; with_reducible rfl⟩) (by simp only [Act.put, List.setIfInBounds_toArray, List.set_cons_zero, List.set_cons_succ, i64_w, i32_w]; rfl) ?_
         refine tz 15 61 HT_ HW_ rfl rfl (by kernel_rfl) (fun _ _ _ h => h) (Or.inl ⟨by rfl, by rintro w' ⟨s0, s1, s2, s3, s4, s5, s6, s7, s8, s9, s10, s11, s12⟩; go_simp; with_reducible rfl⟩) hHeld (by simp only [Act.put, List.setIfInBounds_toArray, List.set_cons_zero, List.set_cons_succ, i64_w, i32_w]; rfl) ?_
         refine tz 16 62 HT_ HW_ rfl rfl (by kernel_rfl) (fun _ _ _ h => h) (Or.inl ⟨by rfl, by rintro w' ⟨s0, s1, s2, s3, s4, s5, s6, s7, s8, s9, s10, s11, s12⟩; go_simp; with_reducible rfl⟩) hHeld (by simp only [Act.put, List.setIfInBounds_toArray, List.set_cons_zero, List.set_cons_succ, i64_w, i32_w]; rfl) ?_
         refine one_ (i := 17) (N := some 63) #[true, true, true, true, true, true, true, true, true, true, true, true, true, true, true, true, true, true, false, false, false, false, false, false, false] rfl rfl (one_of HT_.out (by kernel_rfl)) (by decide) (fun K hK => ?_)
         refine goes_ Try.func18 (by kernel_rfl) rfl #[.agg #[.int .i64 a0_0, .int .i64 a0_1, .int .i64 a0_2, .bool a0_3, .slice A0_4 l0_4.length c0_4, .slice A0_5 l0_5.length c0_5]] (by rfl) rfl rfl (by (try simp only [List.map_toArray, List.map_cons, List.map_nil]); first | done | rfl | (simp only [List.length_drop, List.length_take]; rfl)) ?_
         with_reducible refine (waypointref32_Purge.calls a0_0 a0_1 a0_2 a0_3 _ _ l0_4 _ _ l0_5 t393 t394 t395 t396 t397 t400 _ ?side1 ?side2 ?side3 ?side4 A17.out).mono ?_
         (case side1 => exact cs_ HR0_4 HB)
         (case side2 => exact HC0_4.out)
         (case side3 => exact cs_ HR0_5 HB)
         (case side4 => exact HC0_5.out)
         rintro e w45 ⟨v398, v401, rfl, ho0, ho1, hb⟩
         refine ⟨_, rfl, ?_⟩
         have HO399 := Aside0.mk (Kd.R_lower (Kd.R_new' ho0 (Kd.R_lt (by (with_reducible repeat (first | apply Kd.R_alloc | apply Kd.R_drewN | apply Kd.R_drew)); exact HO380.out))) (below_size (by repeat (first | (with_reducible first | exact HB.out | apply bA | apply bN | apply bD | apply bS GE367.out | apply bS GE385.out) | exact HB.out))))
         have HO402 := Aside0.mk (Kd.R_lower (Kd.R_new' ho1 (Kd.R_lt (by (with_reducible repeat (first | apply Kd.R_alloc | apply Kd.R_drewN | apply Kd.R_drew)); exact HO383.out))) (below_size (by repeat (first | (with_reducible first | exact HB.out | apply bA | apply bN | apply bD | apply bS GE367.out | apply bS GE385.out) | exact HB.out))))
         replace HO372 := Aside0.mk (Kd.R_below (by (with_reducible repeat (first | apply Kd.R_alloc | apply Kd.R_drewN | apply Kd.R_drew)); exact HO372.out) hb)
         replace HO380 := Aside0.mk (Kd.R_elder' (by (with_reducible repeat (first | apply Kd.R_alloc | apply Kd.R_drewN | apply Kd.R_drew)); exact HO380.out) (Kd.R_base ho0) hb)
         replace HO383 := Aside0.mk (Kd.R_elder' (by (with_reducible repeat (first | apply Kd.R_alloc | apply Kd.R_drewN | apply Kd.R_drew)); exact HO383.out) (Kd.R_base ho1) hb)
         replace HO392 := Aside0.mk (Kd.R_below (by (with_reducible repeat (first | apply Kd.R_alloc | apply Kd.R_drewN | apply Kd.R_drew)); exact HO392.out) hb)
         replace BK367 := bb_ BK367 hb
         replace BK385 := bb_ BK385 hb
         replace HB := Aside0.mk (below_step (by repeat (first | (with_reducible first | exact HB.out | apply bA | apply bN | apply bD | apply bS GE367.out | apply bS GE385.out) | exact HB.out)) hb)
         (try clear hb)
         (try clear hb2)
         (try clear hk)
         (try clear hi)
         (try clear ho0)
         (try clear ho1)
         obtain ⟨Ao46, co46, eo46⟩ := Kd.R_slice HO399.out
         (first | subst eo46 | (injection eo46 with f1_ f2_ f3_; have f4_ := f1_.symm; have f5_ := f3_.symm; clear f1_ f2_ f3_; subst f4_; subst f5_))
         obtain ⟨Ao47, co47, eo47⟩ := Kd.R_slice HO402.out
         (first | subst eo47 | (injection eo47 with f1_ f2_ f3_; have f4_ := f1_.symm; have f5_ := f3_.symm; clear f1_ f2_ f3_; subst f4_; subst f5_))
         refine hK.out _ _ ⟨(blk_cell BK367.out 0).trans rfl, (blk_cell BK367.out 1).trans rfl, (blk_cell BK367.out 2).trans rfl, (blk_cell BK367.out 3).trans rfl, (blk_cell BK367.out 4).trans rfl, (blk_cell BK367.out 5).trans rfl, (blk_cell BK385.out 0).trans rfl, (blk_cell BK385.out 1).trans rfl, (blk_cell BK385.out 2).trans rfl, (blk_cell BK385.out 3).trans rfl, (blk_cell BK385.out 4).trans rfl, (blk_cell BK385.out 5).trans rfl, own_string (P := Try.prog) Try.underlying28 Try.underlying5 Try.underlying9 (Kd.own_of_R HO372.out)⟩ (fun hHeld => ?_)
         clear hK K
         refine norm_ (a' := ?_) ?_ ?_
         rotate_left
         ·show Act.put _ (some 63) _ = _
          simp only [Act.put, List.setIfInBounds_toArray, List.set_cons_zero, List.set_cons_succ, i64_w, i32_w]
          rfl
         refine one_ (i := 18) (N := some 64) #[true, true, true, true, true, true, true, true, true, true, true, true, true, true, true, true, true, true, true, false, false, false, false, false, false] rfl rfl (one_of HT_.out (by kernel_rfl)) (by decide) (fun K hK => ?_)
         refine goes_ Try.func16 (by kernel_rfl) rfl #[.agg #[.int .i64 t374, .int .i64 t375, .int .i64 t376, .bool t377, .slice Ao32 t378.length co32, .slice Ao33 t381.length co33], .agg #[.int .i64 t393, .int .i64 t394, .int .i64 t395, .bool t396, .slice Ao46 t397.length co46, .slice Ao47 t400.length co47]] (by rfl) rfl rfl (by (try simp only [List.map_toArray, List.map_cons, List.map_nil]); first | done | rfl | (simp only [List.length_drop, List.length_take]; rfl)) ?_
         with_reducible refine (waypointref32_Equal.calls k t374 t375 t376 t377 _ _ t378 _ _ t381 t393 t394 t395 t396 _ _ t397 _ _ t400 true _ ?side1 ?side2 ?side3 ?side4 ?side5 ?side6 ?side7 ?side8 A18.out).mono ?_
         (case side1 => repeat (first | exact (Kd.R_reads' HO380.out).2.2 | (with_reducible refine Kd.C_alloc ?_ _) | (with_reducible refine Kd.C_drewN ?_ _) | (with_reducible refine Kd.C_drew ?_)))
         (case side2 => exact (Kd.R_reads' HO380.out).2.1)
         (case side3 => repeat (first | exact (Kd.R_reads' HO383.out).2.2 | (with_reducible refine Kd.C_alloc ?_ _) | (with_reducible refine Kd.C_drewN ?_ _) | (with_reducible refine Kd.C_drew ?_)))
         (case side4 => exact (Kd.R_reads' HO383.out).2.1)
         (case side5 => repeat (first | exact (Kd.R_reads' HO399.out).2.2 | (with_reducible refine Kd.C_alloc ?_ _) | (with_reducible refine Kd.C_drewN ?_ _) | (with_reducible refine Kd.C_drew ?_)))
         (case side6 => exact (Kd.R_reads' HO399.out).2.1)
         (case side7 => repeat (first | exact (Kd.R_reads' HO402.out).2.2 | (with_reducible refine Kd.C_alloc ?_ _) | (with_reducible refine Kd.C_drewN ?_ _) | (with_reducible refine Kd.C_drew ?_)))
         (case side8 => exact (Kd.R_reads' HO402.out).2.1)
         rintro e w48 ⟨rfl, hb⟩
         refine ⟨_, rfl, ?_⟩
         replace HO372 := Aside0.mk (Kd.R_below (by (with_reducible repeat (first | apply Kd.R_alloc | apply Kd.R_drewN | apply Kd.R_drew)); exact HO372.out) hb)
         replace HO380 := Aside0.mk (Kd.R_below (by (with_reducible repeat (first | apply Kd.R_alloc | apply Kd.R_drewN | apply Kd.R_drew)); exact HO380.out) hb)
         replace HO383 := Aside0.mk (Kd.R_below (by (with_reducible repeat (first | apply Kd.R_alloc | apply Kd.R_drewN | apply Kd.R_drew)); exact HO383.out) hb)
         replace HO392 := Aside0.mk (Kd.R_below (by (with_reducible repeat (first | apply Kd.R_alloc | apply Kd.R_drewN | apply Kd.R_drew)); exact HO392.out) hb)
         replace HO399 := Aside0.mk (Kd.R_below (by (with_reducible repeat (first | apply Kd.R_alloc | apply Kd.R_drewN | apply Kd.R_drew)); exact HO399.out) hb)
         replace HO402 := Aside0.mk (Kd.R_below (by (with_reducible repeat (first | apply Kd.R_alloc | apply Kd.R_drewN | apply Kd.R_drew)); exact HO402.out) hb)
         replace BK367 := bb_ BK367 hb
         replace BK385 := bb_ BK385 hb
         replace HB := Aside0.mk (below_step (by repeat (first | (with_reducible first | exact HB.out | apply bA | apply bN | apply bD | apply bS GE367.out | apply bS GE385.out) | exact HB.out)) hb)
         (try clear hb)
         (try clear hb2)
         (try clear hk)
         (try clear hi)
         refine hK.out _ _ ⟨(blk_cell BK367.out 0).trans rfl, (blk_cell BK367.out 1).trans rfl, (blk_cell BK367.out 2).trans rfl, (blk_cell BK367.out 3).trans rfl, (blk_cell BK367.out 4).trans rfl, (blk_cell BK367.out 5).trans rfl, (blk_cell BK385.out 0).trans rfl, (blk_cell BK385.out 1).trans rfl, (blk_cell BK385.out 2).trans rfl, (blk_cell BK385.out 3).trans rfl, (blk_cell BK385.out 4).trans rfl, (blk_cell BK385.out 5).trans rfl, own_string (P := Try.prog) Try.underlying28 Try.underlying5 Try.underlying9 (Kd.own_of_R HO372.out)⟩ (fun hHeld => ?_)
         clear hK K
         refine norm_ (a' := ?_) ?_ ?_
         rotate_left
         ·show Act.put _ (some 64) _ = _
          simp only [Act.put, List.setIfInBounds_toArray, List.set_cons_zero, List.set_cons_succ, i64_w, i32_w]
          rfl
         refine pz 19 65 HT_ rfl rfl (by kernel_rfl) (fun _ _ _ h => h) (Or.inl ⟨by rfl, by intro w'; go_simp; with_reducible rfl⟩) (by simp only [Act.put, List.setIfInBounds_toArray, List.set_cons_zero, List.set_cons_succ, i64_w, i32_w]; rfl) ?_
         refine pz 20 66 HT_ rfl rfl (by kernel_rfl) (fun _ _ _ h => h) (Or.inl ⟨by rfl, by intro w'; go_simp; with_reducible rfl⟩) (by simp only [Act.put, List.setIfInBounds_toArray, List.set_cons_zero, List.set_cons_succ, i64_w, i32_w]; rfl) ?_
         refine tz 21 67 HT_ HW_ rfl rfl (by kernel_rfl) (fun _ _ _ h => h) (Or.inl ⟨by rfl, by rintro w' ⟨s0, s1, s2, s3, s4, s5, s6, s7, s8, s9, s10, s11, s12⟩; go_simp; with_reducible rfl⟩) hHeld (by simp only [Act.put, List.setIfInBounds_toArray, List.set_cons_zero, List.set_cons_succ, i64_w, i32_w]; rfl) ?_
         refine one_ (i := 22) (N := some 68) #[true, true, true, true, true, true, true, true, true, true, true, true, true, true, true, true, true, true, true, true, true, true, true, false, false] rfl rfl (one_of HT_.out (by kernel_rfl)) (by decide) (fun K hK => ?_)
         refine goes_ Try.func14 (by kernel_rfl) rfl #[.agg #[.int .i64 t374, .int .i64 t375, .int .i64 t376, .bool t377, .slice Ao32 t378.length co32, .slice Ao33 t381.length co33]] (by rfl) rfl rfl (by (try simp only [List.map_toArray, List.map_cons, List.map_nil]); first | done | rfl | (simp only [List.length_drop, List.length_take]; rfl)) ?_
         with_reducible refine (lsa_Valid.calls k t374 t375 t376 t377 _ _ t378 _ _ t381 t404 _ ?side1 ?side2 ?side3 ?side4 A20.out).mono ?_
         (case side1 => repeat (first | exact (Kd.R_reads' HO380.out).2.2 | (with_reducible refine Kd.C_alloc ?_ _) | (with_reducible refine Kd.C_drewN ?_ _) | (with_reducible refine Kd.C_drew ?_)))
         (case side2 => exact (Kd.R_reads' HO380.out).2.1)
         (case side3 => repeat (first | exact (Kd.R_reads' HO383.out).2.2 | (with_reducible refine Kd.C_alloc ?_ _) | (with_reducible refine Kd.C_drewN ?_ _) | (with_reducible refine Kd.C_drew ?_)))
         (case side4 => exact (Kd.R_reads' HO383.out).2.1)
         rintro e w49 ⟨rfl, hb⟩
         refine ⟨_, rfl, ?_⟩
         replace HO372 := Aside0.mk (Kd.R_below (by (with_reducible repeat (first | apply Kd.R_alloc | apply Kd.R_drewN | apply Kd.R_drew)); exact HO372.out) hb)
         replace HO380 := Aside0.mk (Kd.R_below (by (with_reducible repeat (first | apply Kd.R_alloc | apply Kd.R_drewN | apply Kd.R_drew)); exact HO380.out) hb)
         replace HO383 := Aside0.mk (Kd.R_below (by (with_reducible repeat (first | apply Kd.R_alloc | apply Kd.R_drewN | apply Kd.R_drew)); exact HO383.out) hb)
         replace HO392 := Aside0.mk (Kd.R_below (by (with_reducible repeat (first | apply Kd.R_alloc | apply Kd.R_drewN | apply Kd.R_drew)); exact HO392.out) hb)
         replace HO399 := Aside0.mk (Kd.R_below (by (with_reducible repeat (first | apply Kd.R_alloc | apply Kd.R_drewN | apply Kd.R_drew)); exact HO399.out) hb)
         replace HO402 := Aside0.mk (Kd.R_below (by (with_reducible repeat (first | apply Kd.R_alloc | apply Kd.R_drewN | apply Kd.R_drew)); exact HO402.out) hb)
         replace BK367 := bb_ BK367 hb
         replace BK385 := bb_ BK385 hb
         replace HB := Aside0.mk (below_step (by repeat (first | (with_reducible first | exact HB.out | apply bA | apply bN | apply bD | apply bS GE367.out | apply bS GE385.out) | exact HB.out)) hb)
         (try clear hb)
         (try clear hb2)
         (try clear hk)
         (try clear hi)
         refine hK.out _ _ ⟨(blk_cell BK367.out 0).trans rfl, (blk_cell BK367.out 1).trans rfl, (blk_cell BK367.out 2).trans rfl, (blk_cell BK367.out 3).trans rfl, (blk_cell BK367.out 4).trans rfl, (blk_cell BK367.out 5).trans rfl, (blk_cell BK385.out 0).trans rfl, (blk_cell BK385.out 1).trans rfl, (blk_cell BK385.out 2).trans rfl, (blk_cell BK385.out 3).trans rfl, (blk_cell BK385.out 4).trans rfl, (blk_cell BK385.out 5).trans rfl, own_string (P := Try.prog) Try.underlying28 Try.underlying5 Try.underlying9 (Kd.own_of_R HO372.out)⟩ (fun hHeld => ?_)
         clear hK K
         refine norm_ (a' := ?_) ?_ ?_
         rotate_left
         ·show Act.put _ (some 68) _ = _
          simp only [Act.put, List.setIfInBounds_toArray, List.set_cons_zero, List.set_cons_succ, i64_w, i32_w]
          rfl
         refine pz 23 69 HT_ rfl rfl (by kernel_rfl) (fun _ _ _ h => h) (Or.inl ⟨by rfl, by intro w'; go_simp; with_reducible rfl⟩) (by simp only [Act.put, List.setIfInBounds_toArray, List.set_cons_zero, List.set_cons_succ, i64_w, i32_w]; rfl) ?_
         refine pz 24 2 HT_ rfl rfl (by kernel_rfl) (fun _ _ _ h => h) (Or.inl ⟨by rfl, by intro w'; go_simp; with_reducible rfl⟩) (by simp only [Act.put, List.setIfInBounds_toArray, List.set_cons_zero, List.set_cons_succ, i64_w, i32_w]; rfl) ?_
         refine done_ (done_of HT_.out (by kernel_rfl)) ?_
         try go_wp2
         go_ret
         exact ⟨by first | rfl | (simp [errW_none, errW_some] <;> rfl) | (simp [*, errW_none, errW_some] <;> rfl), by repeat (first | (with_reducible first | exact HB.out | apply bA | apply bN | apply bD | apply bS GE367.out | apply bS GE385.out) | exact HB.out)⟩
        ·replace c19 := Bool.eq_false_iff.mpr c19
         subst c19
         have H1 : (none) = some r := by rw [if_neg (show ¬ (false = true) by decide)] at H; exact H
         clear H
         have H := H1
         clear H1
         exact absurd H (by simp)
       ·rw [if_neg c16] at H
        exact absurd H (by simp)
      ·rw [if_neg c15] at H
       exact absurd H (by simp)
     ·rw [if_neg c13] at H
      exact absurd H (by simp)
    ·replace c12 := Bool.eq_false_iff.mpr c12
     subst c12
     have H1 : (if t373 = 1 then (if (t370.length : Int) = 0 then (if t384 = 1 then ((waypointref32_Equal.f k t374 t375 t376 t377 t378 t381 0 0 0 false ([] : List (S43)) ([] : List (S56))).bind fun t389 => (some t389)) else (none)) else (none)) else (none)) = some r := by rw [if_neg (show ¬ (false = true) by decide)] at H; exact H
     clear H
     have H := H1
     clear H1
     by_cases c50 : t373 = 1
     ·rw [if_pos c50] at H
      have c50b0 : (t373 == 1) = true := beq_iff_eq.mpr c50
      have c50b1 : (t373 != 1) = false := bne_eq_false_iff_eq.mpr c50
      clear c50
      by_cases c51 : (t370.length : Int) = 0
      ·rw [if_pos c51] at H
       have c51b0 : ((t370.length : Int) == 0) = true := beq_iff_eq.mpr c51
       have c51b1 : ((t370.length : Int) != 0) = false := bne_eq_false_iff_eq.mpr c51
       clear c51
       by_cases c52 : t384 = 1
       ·rw [if_pos c52] at H
        have c52b0 : (t384 == 1) = true := beq_iff_eq.mpr c52
        have c52b1 : (t384 != 1) = false := bne_eq_false_iff_eq.mpr c52
        clear c52
        replace H := Option.bind_eq_some_iff.mp H
        obtain ⟨t389, A530, H⟩ := H
        replace H : (some t389) = some r := H
        have A53 := Aside0.mk A530
        clear A530
        obtain rfl := Option.some.inj H
        go_enter Try.func3, Try.ntmps3
        try go_wp2_with (first | ((with_reducible refine gate_dst (N := 1) rfl ?_); (try (refine gate_guard (by rfl) ?_; dsimp only)); refine box_event ?hg (N := 1) ?hd (cs := #[.int .i64 a0_0, .int .i64 a0_1, .int .i64 a0_2, .bool a0_3, .slice A0_4 l0_4.length c0_4, .slice A0_5 l0_5.length c0_5]) (t := 25) ?hr ?_; (case hd => rfl); (case hg => rfl); (case hr => first | (go_simp; done) | (go_simp; rfl)); intro gb367 hg w54 hbox hb; have BK367 := Aside0.mk (hbox); have GW367 := gs_ HB hg; have GE367 := gs_ HB hg; replace HB := bs_ HB hb; clear hb hbox hg) | ((with_reducible refine gate_callee (f := 10) rfl ?_); refine goesL_ (some 7) rfl rfl Try.func10 (by kernel_rfl) rfl #[] rfl (by (try simp only [List.map_toArray, List.map_cons, List.map_nil]); first | done | rfl | (simp only [List.length_drop, List.length_take]; rfl)) ?_; (with_reducible refine (waypointlaw32_awake.calls  true _ A2.out).mono ?_); rintro e w55 ⟨rfl, hb⟩; refine ⟨_, rfl, ?_⟩; replace BK367 := bb_ BK367 hb; replace HB := Aside0.mk (below_step (by repeat (first | (with_reducible first | exact HB.out | apply bA | apply bN | apply bD | apply bS GE367.out) | exact HB.out)) hb); (try clear hb); (try clear hb2); (try clear hk); (try clear hi); obtain ⟨hcz56_0, hcz56_1, hcz56_2, hcz56_3, hcz56_4, hcz56_5, hfz56_0, hfz56_1, hfz56_2, hfz56_3, hfz56_4, hfz56_5⟩ := c6_ BK367) | ((with_reducible refine gate_callee (f := 11) rfl ?_); refine goesL_ (some 10) rfl rfl Try.func11 (by kernel_rfl) rfl #[.agg #[.int .i64 a0_0, .int .i64 a0_1, .int .i64 a0_2, .bool a0_3, .slice A0_4 l0_4.length c0_4, .slice A0_5 l0_5.length c0_5]] rfl (by (try simp only [List.map_toArray, List.map_cons, List.map_nil]); first | done | rfl | (simp only [List.length_drop, List.length_take]; rfl)) ?_; (with_reducible refine (waypointref32_Few.calls a0_0 a0_1 a0_2 a0_3 _ _ l0_4 _ _ l0_5 true _ ?side1 ?side2 ?side3 ?side4 A4.out).mono ?_); (case side1 => exact cs_ HR0_4 HB); (case side2 => exact HC0_4.out); (case side3 => exact cs_ HR0_5 HB); (case side4 => exact HC0_5.out); rintro e w57 ⟨rfl, hb⟩; refine ⟨_, rfl, ?_⟩; replace BK367 := bb_ BK367 hb; replace HB := Aside0.mk (below_step (by repeat (first | (with_reducible first | exact HB.out | apply bA | apply bN | apply bD | apply bS GE367.out) | exact HB.out)) hb); (try clear hb); (try clear hb2); (try clear hk); (try clear hi); obtain ⟨hcz58_0, hcz58_1, hcz58_2, hcz58_3, hcz58_4, hcz58_5, hfz58_0, hfz58_1, hfz58_2, hfz58_3, hfz58_4, hfz58_5⟩ := c6_ BK367) | ((with_reducible refine gate_callee (f := 12) rfl ?_); refine goesL_ (some 14) rfl rfl Try.func12 (by kernel_rfl) rfl #[.agg #[.int .i64 a0_0, .int .i64 a0_1, .int .i64 a0_2, .bool a0_3, .slice A0_4 l0_4.length c0_4, .slice A0_5 l0_5.length c0_5]] rfl (by (try simp only [List.map_toArray, List.map_cons, List.map_nil]); first | done | rfl | (simp only [List.length_drop, List.length_take]; rfl)) ?_; (with_reducible refine (lsa_Encode.calls k a0_0 a0_1 a0_2 a0_3 _ _ l0_4 _ _ l0_5 t370 t373 _ ?side1 ?side2 ?side3 ?side4 A6.out).mono ?_); (case side1 => exact cs_ HR0_4 HB); (case side2 => exact HC0_4.out); (case side3 => exact cs_ HR0_5 HB); (case side4 => exact HC0_5.out); rintro e w59 ⟨v371, rfl, ho0, hb⟩; refine ⟨_, rfl, ?_⟩; have HO372 := Aside0.mk (Kd.R_lower ho0 (below_size (by repeat (first | (with_reducible first | exact HB.out | apply bA | apply bN | apply bD | apply bS GE367.out) | exact HB.out)))); replace BK367 := bb_ BK367 hb; replace HB := Aside0.mk (below_step (by repeat (first | (with_reducible first | exact HB.out | apply bA | apply bN | apply bD | apply bS GE367.out) | exact HB.out)) hb); (try clear hb); (try clear hb2); (try clear hk); (try clear hi); (try clear ho0); obtain ⟨hcz60_0, hcz60_1, hcz60_2, hcz60_3, hcz60_4, hcz60_5, hfz60_0, hfz60_1, hfz60_2, hfz60_3, hfz60_4, hfz60_5⟩ := c6_ BK367) | ((with_reducible refine gate_callee (f := 13) rfl ?_); refine goesL_ (some 19) rfl rfl Try.func13 (by kernel_rfl) rfl #[.agg #[.int .i64 a0_0, .int .i64 a0_1, .int .i64 a0_2, .bool a0_3, .slice A0_4 l0_4.length c0_4, .slice A0_5 l0_5.length c0_5]] rfl (by (try simp only [List.map_toArray, List.map_cons, List.map_nil]); first | done | rfl | (simp only [List.length_drop, List.length_take]; rfl)) ?_; (with_reducible refine (lsa_Purge.calls k a0_0 a0_1 a0_2 a0_3 _ _ l0_4 _ _ l0_5 t374 t375 t376 t377 t378 t381 t384 _ ?side1 ?side2 ?side3 ?side4 A7.out).mono ?_); (case side1 => exact cs_ HR0_4 HB); (case side2 => exact HC0_4.out); (case side3 => exact cs_ HR0_5 HB); (case side4 => exact HC0_5.out); rintro e w61 ⟨v379, v382, rfl, ho0, ho1, hb⟩; refine ⟨_, rfl, ?_⟩; have HO380 := Aside0.mk (Kd.R_lower ho0 (below_size (by repeat (first | (with_reducible first | exact HB.out | apply bA | apply bN | apply bD | apply bS GE367.out) | exact HB.out)))); have HO383 := Aside0.mk (Kd.R_lower ho1 (below_size (by repeat (first | (with_reducible first | exact HB.out | apply bA | apply bN | apply bD | apply bS GE367.out) | exact HB.out)))); replace HO372 := Aside0.mk (Kd.R_below (by (with_reducible repeat (first | apply Kd.R_alloc | apply Kd.R_drewN | apply Kd.R_drew)); exact HO372.out) hb); replace BK367 := bb_ BK367 hb; replace HB := Aside0.mk (below_step (by repeat (first | (with_reducible first | exact HB.out | apply bA | apply bN | apply bD | apply bS GE367.out) | exact HB.out)) hb); (try clear hb); (try clear hb2); (try clear hk); (try clear hi); (try clear ho0); (try clear ho1)) | ((with_reducible refine gate_dst (N := 5) rfl ?_); (try (refine gate_guard (by rfl) ?_; dsimp only)); refine box_event ?hg (N := 5) ?hd (cs := #[.int .i64 0, .int .i64 0, .int .i64 0, .bool false, .slice none 0 0, .slice none 0 0]) (t := 25) ?hr ?_; (case hd => rfl); (case hg => rfl); (case hr => first | (go_simp; done) | (go_simp; rfl)); intro gb385 hg w62 hbox hb; have BK385 := Aside0.mk (hbox); have GW385 := Aside0.mk ((by rw [hg]; exact (below_size (by repeat (first | (with_reducible first | exact HB.out | apply bA | apply bN | apply bD | apply bS GE367.out) | exact HB.out))) : w.heap.size ≤ gb385)); have GE385 := Aside0.mk ((by rw [hg]; exact (below_size (by repeat (first | (with_reducible first | exact HB.out | apply bA | apply bN | apply bD | apply bS GE367.out) | exact HB.out))) : w.heap.size ≤ gb385)); have NB367_385 := nl_ BK367 hg; have NB385_367 := ng_ BK367 hg; replace HO372 := Aside0.mk (Kd.R_below (by (with_reducible repeat (first | apply Kd.R_alloc | apply Kd.R_drewN | apply Kd.R_drew)); exact HO372.out) hb); replace HO380 := Aside0.mk (Kd.R_below (by (with_reducible repeat (first | apply Kd.R_alloc | apply Kd.R_drewN | apply Kd.R_drew)); exact HO380.out) hb); replace HO383 := Aside0.mk (Kd.R_below (by (with_reducible repeat (first | apply Kd.R_alloc | apply Kd.R_drewN | apply Kd.R_drew)); exact HO383.out) hb); replace BK367 := bb_ BK367 hb; replace HB := Aside0.mk (below_step (by repeat (first | (with_reducible first | exact HB.out | apply bA | apply bN | apply bD | apply bS GE367.out) | exact HB.out)) hb); clear hb hbox hg; have hnb63 := NB385_367.out; have hnc63 := NB367_385.out; obtain ⟨hcz64_0, hcz64_1, hcz64_2, hcz64_3, hcz64_4, hcz64_5, hfz64_0, hfz64_1, hfz64_2, hfz64_3, hfz64_4, hfz64_5⟩ := c6_ BK385; obtain ⟨Ao65, co65, eo65⟩ := Kd.R_slice HO380.out; subst eo65; obtain ⟨Ao66, co66, eo66⟩ := Kd.R_slice HO383.out; subst eo66))
        have n0_ : Aside0 (Kd.R (Kd.int .u8) 5 ((((((w62.setCell ⟨gb385, 0, none⟩ (.int .i64 t374)).setCell ⟨gb385, 1, none⟩ (.int .i64 t375)).setCell ⟨gb385, 2, none⟩ (.int .i64 t376)).setCell ⟨gb385, 3, none⟩ (.bool t377)).setCell ⟨gb385, 4, none⟩ (.slice Ao65 t378.length co65)).setCell ⟨gb385, 5, none⟩ (.slice Ao66 t381.length co66)) w.heap.size (fun _ => True) v371 t370) := ⟨by (with_reducible repeat (first | apply Kd.R_alloc | apply Kd.R_drewN | apply Kd.R_drew)); exact Kd.R_mono (Kd.R_far (p := ⟨gb385, 5, none⟩) (Kd.R_far (p := ⟨gb385, 4, none⟩) (Kd.R_far (p := ⟨gb385, 3, none⟩) (Kd.R_far (p := ⟨gb385, 2, none⟩) (Kd.R_far (p := ⟨gb385, 1, none⟩) (Kd.R_far (p := ⟨gb385, 0, none⟩) (Kd.R_types HO372.out BK385.out (by decide)) (fun _ hk => hk.2) (.int .i64 t374)) (fun _ hk => hk.2) (.int .i64 t375)) (fun _ hk => hk.2) (.int .i64 t376)) (fun _ hk => hk.2) (.bool t377)) (fun _ hk => hk.2) (.slice Ao65 t378.length co65)) (fun _ hk => hk.2) (.slice Ao66 t381.length co66)) (fun _ hk => trivial)⟩
        have n1_ : Aside0 (Kd.R k43 43 ((((((w62.setCell ⟨gb385, 0, none⟩ (.int .i64 t374)).setCell ⟨gb385, 1, none⟩ (.int .i64 t375)).setCell ⟨gb385, 2, none⟩ (.int .i64 t376)).setCell ⟨gb385, 3, none⟩ (.bool t377)).setCell ⟨gb385, 4, none⟩ (.slice Ao65 t378.length co65)).setCell ⟨gb385, 5, none⟩ (.slice Ao66 t381.length co66)) w.heap.size (fun _ => True) (.slice Ao65 t378.length co65) t378) := ⟨by (with_reducible repeat (first | apply Kd.R_alloc | apply Kd.R_drewN | apply Kd.R_drew)); exact Kd.R_mono (Kd.R_far (p := ⟨gb385, 5, none⟩) (Kd.R_far (p := ⟨gb385, 4, none⟩) (Kd.R_far (p := ⟨gb385, 3, none⟩) (Kd.R_far (p := ⟨gb385, 2, none⟩) (Kd.R_far (p := ⟨gb385, 1, none⟩) (Kd.R_far (p := ⟨gb385, 0, none⟩) (Kd.R_types HO380.out BK385.out (by decide)) (fun _ hk => hk.2) (.int .i64 t374)) (fun _ hk => hk.2) (.int .i64 t375)) (fun _ hk => hk.2) (.int .i64 t376)) (fun _ hk => hk.2) (.bool t377)) (fun _ hk => hk.2) (.slice Ao65 t378.length co65)) (fun _ hk => hk.2) (.slice Ao66 t381.length co66)) (fun _ hk => trivial)⟩
        have n2_ : Aside0 (Kd.R k56 56 ((((((w62.setCell ⟨gb385, 0, none⟩ (.int .i64 t374)).setCell ⟨gb385, 1, none⟩ (.int .i64 t375)).setCell ⟨gb385, 2, none⟩ (.int .i64 t376)).setCell ⟨gb385, 3, none⟩ (.bool t377)).setCell ⟨gb385, 4, none⟩ (.slice Ao65 t378.length co65)).setCell ⟨gb385, 5, none⟩ (.slice Ao66 t381.length co66)) w.heap.size (fun _ => True) (.slice Ao66 t381.length co66) t381) := ⟨by (with_reducible repeat (first | apply Kd.R_alloc | apply Kd.R_drewN | apply Kd.R_drew)); exact Kd.R_mono (Kd.R_far (p := ⟨gb385, 5, none⟩) (Kd.R_far (p := ⟨gb385, 4, none⟩) (Kd.R_far (p := ⟨gb385, 3, none⟩) (Kd.R_far (p := ⟨gb385, 2, none⟩) (Kd.R_far (p := ⟨gb385, 1, none⟩) (Kd.R_far (p := ⟨gb385, 0, none⟩) (Kd.R_types HO383.out BK385.out (by decide)) (fun _ hk => hk.2) (.int .i64 t374)) (fun _ hk => hk.2) (.int .i64 t375)) (fun _ hk => hk.2) (.int .i64 t376)) (fun _ hk => hk.2) (.bool t377)) (fun _ hk => hk.2) (.slice Ao65 t378.length co65)) (fun _ hk => hk.2) (.slice Ao66 t381.length co66)) (fun _ hk => trivial)⟩
        have n3_ : Aside0 (((((((w62.setCell ⟨gb385, 0, none⟩ (.int .i64 t374)).setCell ⟨gb385, 1, none⟩ (.int .i64 t375)).setCell ⟨gb385, 2, none⟩ (.int .i64 t376)).setCell ⟨gb385, 3, none⟩ (.bool t377)).setCell ⟨gb385, 4, none⟩ (.slice Ao65 t378.length co65)).setCell ⟨gb385, 5, none⟩ (.slice Ao66 t381.length co66)).heap[gb367]? = some (.cells #[.int .i64 a0_0, .int .i64 a0_1, .int .i64 a0_2, .bool a0_3, .slice A0_4 l0_4.length c0_4, .slice A0_5 l0_5.length c0_5] 25 (0, 0))) := ⟨by (with_reducible repeat (first | refine blk_drewN ?_ _ | refine blk_drew ?_ | refine blk_alloc ?_ _)); refine blk_far ?_ NB367_385.out _; (with_reducible repeat (first | refine blk_drewN ?_ _ | refine blk_drew ?_ | refine blk_alloc ?_ _)); refine blk_far ?_ NB367_385.out _; (with_reducible repeat (first | refine blk_drewN ?_ _ | refine blk_drew ?_ | refine blk_alloc ?_ _)); refine blk_far ?_ NB367_385.out _; (with_reducible repeat (first | refine blk_drewN ?_ _ | refine blk_drew ?_ | refine blk_alloc ?_ _)); refine blk_far ?_ NB367_385.out _; (with_reducible repeat (first | refine blk_drewN ?_ _ | refine blk_drew ?_ | refine blk_alloc ?_ _)); refine blk_far ?_ NB367_385.out _; (with_reducible repeat (first | refine blk_drewN ?_ _ | refine blk_drew ?_ | refine blk_alloc ?_ _)); refine blk_far ?_ NB367_385.out _; (with_reducible repeat (first | refine blk_drewN ?_ _ | refine blk_drew ?_ | refine blk_alloc ?_ _)); exact BK367.out⟩
        have n4_ : Aside0 (((((((w62.setCell ⟨gb385, 0, none⟩ (.int .i64 t374)).setCell ⟨gb385, 1, none⟩ (.int .i64 t375)).setCell ⟨gb385, 2, none⟩ (.int .i64 t376)).setCell ⟨gb385, 3, none⟩ (.bool t377)).setCell ⟨gb385, 4, none⟩ (.slice Ao65 t378.length co65)).setCell ⟨gb385, 5, none⟩ (.slice Ao66 t381.length co66)).heap[gb385]? = some (.cells #[.int .i64 t374, .int .i64 t375, .int .i64 t376, .bool t377, .slice Ao65 t378.length co65, .slice Ao66 t381.length co66] 25 (0, 0))) := ⟨by (with_reducible repeat (first | refine blk_drewN ?_ _ | refine blk_drew ?_ | refine blk_alloc ?_ _)); refine blk_put (cs := #[.int .i64 t374, .int .i64 t375, .int .i64 t376, .bool t377, .slice Ao65 t378.length co65, .slice none 0 0]) ?_ 5 _ rfl; (with_reducible repeat (first | refine blk_drewN ?_ _ | refine blk_drew ?_ | refine blk_alloc ?_ _)); refine blk_put (cs := #[.int .i64 t374, .int .i64 t375, .int .i64 t376, .bool t377, .slice none 0 0, .slice none 0 0]) ?_ 4 _ rfl; (with_reducible repeat (first | refine blk_drewN ?_ _ | refine blk_drew ?_ | refine blk_alloc ?_ _)); refine blk_put (cs := #[.int .i64 t374, .int .i64 t375, .int .i64 t376, .bool false, .slice none 0 0, .slice none 0 0]) ?_ 3 _ rfl; (with_reducible repeat (first | refine blk_drewN ?_ _ | refine blk_drew ?_ | refine blk_alloc ?_ _)); refine blk_put (cs := #[.int .i64 t374, .int .i64 t375, .int .i64 0, .bool false, .slice none 0 0, .slice none 0 0]) ?_ 2 _ rfl; (with_reducible repeat (first | refine blk_drewN ?_ _ | refine blk_drew ?_ | refine blk_alloc ?_ _)); refine blk_put (cs := #[.int .i64 t374, .int .i64 0, .int .i64 0, .bool false, .slice none 0 0, .slice none 0 0]) ?_ 1 _ rfl; (with_reducible repeat (first | refine blk_drewN ?_ _ | refine blk_drew ?_ | refine blk_alloc ?_ _)); refine blk_put (cs := #[.int .i64 0, .int .i64 0, .int .i64 0, .bool false, .slice none 0 0, .slice none 0 0]) ?_ 0 _ rfl; (with_reducible repeat (first | refine blk_drewN ?_ _ | refine blk_drew ?_ | refine blk_alloc ?_ _)); exact BK385.out⟩
        have n5_ : Aside0 (Below w.heap.size w ((((((w62.setCell ⟨gb385, 0, none⟩ (.int .i64 t374)).setCell ⟨gb385, 1, none⟩ (.int .i64 t375)).setCell ⟨gb385, 2, none⟩ (.int .i64 t376)).setCell ⟨gb385, 3, none⟩ (.bool t377)).setCell ⟨gb385, 4, none⟩ (.slice Ao65 t378.length co65)).setCell ⟨gb385, 5, none⟩ (.slice Ao66 t381.length co66))) := ⟨by repeat (first | (with_reducible first | exact HB.out | apply bA | apply bN | apply bD | apply bS GE367.out | apply bS GE385.out) | exact HB.out)⟩
        (try clear HO372)
        (try clear HO380)
        (try clear HO383)
        (try clear BK367)
        (try clear BK385)
        (try clear HB)
        generalize ((((((w62.setCell ⟨gb385, 0, none⟩ (.int .i64 t374)).setCell ⟨gb385, 1, none⟩ (.int .i64 t375)).setCell ⟨gb385, 2, none⟩ (.int .i64 t376)).setCell ⟨gb385, 3, none⟩ (.bool t377)).setCell ⟨gb385, 4, none⟩ (.slice Ao65 t378.length co65)).setCell ⟨gb385, 5, none⟩ (.slice Ao66 t381.length co66)) = w67 at n0_ n1_ n2_ n3_ n4_ n5_ ⊢
        have HO372 := n0_
        have HO380 := n1_
        have HO383 := n2_
        have BK367 := n3_
        have BK385 := n4_
        have HB := n5_
        clear n0_ n1_ n2_ n3_ n4_ n5_
        replace HO372 := Aside0.mk (Kd.R_drew HO372.out)
        replace HO380 := Aside0.mk (Kd.R_drew HO380.out)
        replace HO383 := Aside0.mk (Kd.R_drew HO383.out)
        replace BK367 := Aside0.mk (blk_drew BK367.out)
        replace BK385 := Aside0.mk (blk_drew BK385.out)
        replace HB := Aside0.mk (below_drew1 HB.out)
        refine start_ (n := 5) (S := fun w' => w'.cell? ⟨gb367, 0, none⟩ = some (.int .i64 a0_0) ∧ w'.cell? ⟨gb367, 1, none⟩ = some (.int .i64 a0_1) ∧ w'.cell? ⟨gb367, 2, none⟩ = some (.int .i64 a0_2) ∧ w'.cell? ⟨gb367, 3, none⟩ = some (.bool a0_3) ∧ w'.cell? ⟨gb367, 4, none⟩ = some (.slice A0_4 l0_4.length c0_4) ∧ w'.cell? ⟨gb367, 5, none⟩ = some (.slice A0_5 l0_5.length c0_5)) (ds := []) #[false, false, false, false, false] (by kernel_rfl) rfl rfl ⟨(blk_cell BK367.out 0).trans rfl, (blk_cell BK367.out 1).trans rfl, (blk_cell BK367.out 2).trans rfl, (blk_cell BK367.out 3).trans rfl, (blk_cell BK367.out 4).trans rfl, (blk_cell BK367.out 5).trans rfl⟩ (fun hHeld => ?_)
        generalize w67.drew = w68 at HO372 HO380 HO383 BK367 BK385 HB hHeld ⊢
        refine take_ (i := 0) (N := some 22) (v := ?_) (a' := ?_) #[true, false, false, false, false] rfl rfl (by kernel_rfl) (fun _ _ _ h => h) (Or.inl ⟨by rfl, ?_⟩) hHeld ?_ ?_
        rotate_left
        ·rintro w' ⟨s0, s1, s2, s3, s4, s5⟩
         go_simp
         with_reducible rfl
        rotate_left
        ·simp only [Act.put, List.setIfInBounds_toArray, List.set_cons_zero, List.set_cons_succ, i64_w, i32_w]
         rfl
        refine take_ (i := 2) (N := some 24) (v := ?_) (a' := ?_) #[true, false, true, false, false] rfl rfl (by kernel_rfl) (fun _ _ _ h => h) (Or.inl ⟨by rfl, ?_⟩) hHeld ?_ ?_
        rotate_left
        ·rintro w' ⟨s0, s1, s2, s3, s4, s5⟩
         go_simp
         with_reducible rfl
        rotate_left
        ·simp only [Act.put, List.setIfInBounds_toArray, List.set_cons_zero, List.set_cons_succ, i64_w, i32_w]
         rfl
        refine one_ (i := 1) (N := some 23) #[true, true, true, false, false] rfl rfl (by kernel_rfl) (by decide) (fun K hK => ?_)
        refine goes_ Try.func14 (by kernel_rfl) rfl #[.agg #[.int .i64 a0_0, .int .i64 a0_1, .int .i64 a0_2, .bool a0_3, .slice A0_4 l0_4.length c0_4, .slice A0_5 l0_5.length c0_5]] (by rfl) rfl rfl (by (try simp only [List.map_toArray, List.map_cons, List.map_nil]); first | done | rfl | (simp only [List.length_drop, List.length_take]; rfl)) ?_
        with_reducible refine (lsa_Valid.calls k a0_0 a0_1 a0_2 a0_3 _ _ l0_4 _ _ l0_5 t386 _ ?side1 ?side2 ?side3 ?side4 A8.out).mono ?_
        (case side1 => exact cs_ HR0_4 HB)
        (case side2 => exact HC0_4.out)
        (case side3 => exact cs_ HR0_5 HB)
        (case side4 => exact HC0_5.out)
        rintro e w69 ⟨rfl, hb⟩
        refine ⟨_, rfl, ?_⟩
        replace HO372 := Aside0.mk (Kd.R_below (by (with_reducible repeat (first | apply Kd.R_alloc | apply Kd.R_drewN | apply Kd.R_drew)); exact HO372.out) hb)
        replace HO380 := Aside0.mk (Kd.R_below (by (with_reducible repeat (first | apply Kd.R_alloc | apply Kd.R_drewN | apply Kd.R_drew)); exact HO380.out) hb)
        replace HO383 := Aside0.mk (Kd.R_below (by (with_reducible repeat (first | apply Kd.R_alloc | apply Kd.R_drewN | apply Kd.R_drew)); exact HO383.out) hb)
        replace BK367 := bb_ BK367 hb
        replace BK385 := bb_ BK385 hb
        replace HB := Aside0.mk (below_step (by repeat (first | (with_reducible first | exact HB.out | apply bA | apply bN | apply bD | apply bS GE367.out | apply bS GE385.out) | exact HB.out)) hb)
        (try clear hb)
        (try clear hb2)
        (try clear hk)
        (try clear hi)
        refine hK.out _ _ ⟨(blk_cell BK367.out 0).trans rfl, (blk_cell BK367.out 1).trans rfl, (blk_cell BK367.out 2).trans rfl, (blk_cell BK367.out 3).trans rfl, (blk_cell BK367.out 4).trans rfl, (blk_cell BK367.out 5).trans rfl⟩ (fun hHeld => ?_)
        clear hK K
        refine norm_ (a' := ?_) ?_ ?_
        rotate_left
        ·show Act.put _ (some 23) _ = _
         simp only [Act.put, List.setIfInBounds_toArray, List.set_cons_zero, List.set_cons_succ, i64_w, i32_w]
         rfl
        refine one_ (i := 3) (N := some 25) #[true, true, true, true, false] rfl rfl (by kernel_rfl) (by decide) (fun K hK => ?_)
        refine goes_ Try.func15 (by kernel_rfl) rfl #[.agg #[.int .i64 a0_0, .int .i64 a0_1, .int .i64 a0_2, .bool a0_3, .slice A0_4 l0_4.length c0_4, .slice A0_5 l0_5.length c0_5]] (by rfl) rfl rfl (by (try simp only [List.map_toArray, List.map_cons, List.map_nil]); first | done | rfl | (simp only [List.length_drop, List.length_take]; rfl)) ?_
        with_reducible refine (waypointref32_Valid.calls k a0_0 a0_1 a0_2 a0_3 _ _ l0_4 _ _ l0_5 t387 _ ?side1 ?side2 ?side3 ?side4 A9.out).mono ?_
        (case side1 => exact cs_ HR0_4 HB)
        (case side2 => exact HC0_4.out)
        (case side3 => exact cs_ HR0_5 HB)
        (case side4 => exact HC0_5.out)
        rintro e w70 ⟨rfl, hb⟩
        refine ⟨_, rfl, ?_⟩
        replace HO372 := Aside0.mk (Kd.R_below (by (with_reducible repeat (first | apply Kd.R_alloc | apply Kd.R_drewN | apply Kd.R_drew)); exact HO372.out) hb)
        replace HO380 := Aside0.mk (Kd.R_below (by (with_reducible repeat (first | apply Kd.R_alloc | apply Kd.R_drewN | apply Kd.R_drew)); exact HO380.out) hb)
        replace HO383 := Aside0.mk (Kd.R_below (by (with_reducible repeat (first | apply Kd.R_alloc | apply Kd.R_drewN | apply Kd.R_drew)); exact HO383.out) hb)
        replace BK367 := bb_ BK367 hb
        replace BK385 := bb_ BK385 hb
        replace HB := Aside0.mk (below_step (by repeat (first | (with_reducible first | exact HB.out | apply bA | apply bN | apply bD | apply bS GE367.out | apply bS GE385.out) | exact HB.out)) hb)
        (try clear hb)
        (try clear hb2)
        (try clear hk)
        (try clear hi)
        refine hK.out _ _ ⟨(blk_cell BK367.out 0).trans rfl, (blk_cell BK367.out 1).trans rfl, (blk_cell BK367.out 2).trans rfl, (blk_cell BK367.out 3).trans rfl, (blk_cell BK367.out 4).trans rfl, (blk_cell BK367.out 5).trans rfl⟩ (fun hHeld => ?_)
        clear hK K
        refine norm_ (a' := ?_) ?_ ?_
        rotate_left
        ·show Act.put _ (some 25) _ = _
         simp only [Act.put, List.setIfInBounds_toArray, List.set_cons_zero, List.set_cons_succ, i64_w, i32_w]
         rfl
        refine pure_ (i := 4) (N := some 26) (v := ?_) (a' := ?_) #[true, true, true, true, true] rfl rfl (by kernel_rfl) (fun _ _ _ h => h) (Or.inl ⟨by rfl, ?_⟩) ?_ ?_
        rotate_left
        ·intro w'
         go_simp
         with_reducible rfl
        rotate_left
        ·simp only [Act.put, List.setIfInBounds_toArray, List.set_cons_zero, List.set_cons_succ, i64_w, i32_w]
         rfl
        refine done_ (by kernel_rfl) ?_
        obtain ⟨hcz71_0, hcz71_1, hcz71_2, hcz71_3, hcz71_4, hcz71_5, hfz71_0, hfz71_1, hfz71_2, hfz71_3, hfz71_4, hfz71_5⟩ := c6_ BK367
        try go_wp2_with (first | ((with_reducible refine gate_callee (f := 15) rfl ?_); refine goesL_ (some 28) rfl rfl Try.func15 (by kernel_rfl) rfl #[.agg #[.int .i64 a0_0, .int .i64 a0_1, .int .i64 a0_2, .bool a0_3, .slice A0_4 l0_4.length c0_4, .slice A0_5 l0_5.length c0_5]] rfl (by (try simp only [List.map_toArray, List.map_cons, List.map_nil]); first | done | rfl | (simp only [List.length_drop, List.length_take]; rfl)) ?_; (with_reducible refine (waypointref32_Valid.calls k a0_0 a0_1 a0_2 a0_3 _ _ l0_4 _ _ l0_5 false _ ?side1 ?side2 ?side3 ?side4 A11.out).mono ?_); (case side1 => exact cs_ HR0_4 HB); (case side2 => exact HC0_4.out); (case side3 => exact cs_ HR0_5 HB); (case side4 => exact HC0_5.out); rintro e w72 ⟨rfl, hb⟩; refine ⟨_, rfl, ?_⟩; replace HO372 := Aside0.mk (Kd.R_below (by (with_reducible repeat (first | apply Kd.R_alloc | apply Kd.R_drewN | apply Kd.R_drew)); exact HO372.out) hb); replace HO380 := Aside0.mk (Kd.R_below (by (with_reducible repeat (first | apply Kd.R_alloc | apply Kd.R_drewN | apply Kd.R_drew)); exact HO380.out) hb); replace HO383 := Aside0.mk (Kd.R_below (by (with_reducible repeat (first | apply Kd.R_alloc | apply Kd.R_drewN | apply Kd.R_drew)); exact HO383.out) hb); replace BK367 := bb_ BK367 hb; replace BK385 := bb_ BK385 hb; replace HB := Aside0.mk (below_step (by repeat (first | (with_reducible first | exact HB.out | apply bA | apply bN | apply bD | apply bS GE367.out | apply bS GE385.out) | exact HB.out)) hb); (try clear hb); (try clear hb2); (try clear hk); (try clear hi); obtain ⟨Ao73, co73, eo73⟩ := Kd.R_slice HO372.out; subst eo73; obtain ⟨hcz74_0, hcz74_1, hcz74_2, hcz74_3, hcz74_4, hcz74_5, hfz74_0, hfz74_1, hfz74_2, hfz74_3, hfz74_4, hfz74_5⟩ := c6_ BK385) | (go_at_call 16; (refine (waypointref32_Equal.calls k t374 t375 t376 t377 _ _ t378 _ _ t381 0 0 0 false _ _ ([] : List (S43)) _ _ ([] : List (S56)) t389 _ ?side1 ?side2 ?side3 ?side4 ?side5 ?side6 ?side7 ?side8 A53.out).mono ?_); (case side1 => repeat (first | exact (Kd.R_reads' HO380.out).2.2 | (with_reducible refine Kd.C_alloc ?_ _) | (with_reducible refine Kd.C_drewN ?_ _) | (with_reducible refine Kd.C_drew ?_))); (case side2 => exact (Kd.R_reads' HO380.out).2.1); (case side3 => repeat (first | exact (Kd.R_reads' HO383.out).2.2 | (with_reducible refine Kd.C_alloc ?_ _) | (with_reducible refine Kd.C_drewN ?_ _) | (with_reducible refine Kd.C_drew ?_))); (case side4 => exact (Kd.R_reads' HO383.out).2.1); (case side5 => exact Kd.C_nil _ _); (case side6 => exact Nat.le_refl _); (case side7 => exact Kd.C_nil _ _); (case side8 => exact Nat.le_refl _); rintro e w75 ⟨rfl, hb⟩; replace HO372 := Aside0.mk (Kd.R_below (by (with_reducible repeat (first | apply Kd.R_alloc | apply Kd.R_drewN | apply Kd.R_drew)); exact HO372.out) hb); replace HO380 := Aside0.mk (Kd.R_below (by (with_reducible repeat (first | apply Kd.R_alloc | apply Kd.R_drewN | apply Kd.R_drew)); exact HO380.out) hb); replace HO383 := Aside0.mk (Kd.R_below (by (with_reducible repeat (first | apply Kd.R_alloc | apply Kd.R_drewN | apply Kd.R_drew)); exact HO383.out) hb); replace BK367 := bb_ BK367 hb; replace BK385 := bb_ BK385 hb; replace HB := Aside0.mk (below_step (by repeat (first | (with_reducible first | exact HB.out | apply bA | apply bN | apply bD | apply bS GE367.out | apply bS GE385.out) | exact HB.out)) hb); (try clear hb); (try clear hb2); (try clear hk); (try clear hi)))
        go_ret
        exact ⟨by first | rfl | (simp [errW_none, errW_some] <;> rfl) | (simp [*, errW_none, errW_some] <;> rfl), by repeat (first | (with_reducible first | exact HB.out | apply bA | apply bN | apply bD | apply bS GE367.out | apply bS GE385.out) | exact HB.out)⟩
       ·rw [if_neg c52] at H
        exact absurd H (by simp)
      ·rw [if_neg c51] at H
       exact absurd H (by simp)
     ·rw [if_neg c50] at H
      exact absurd H (by simp)
  ·replace c5 := Bool.eq_false_iff.mpr c5
   subst c5
   have H1 : (some true) = some r := by rw [if_neg (show ¬ (false = true) by decide)] at H; exact H
   clear H
   have H := H1
   clear H1
   obtain rfl := Option.some.inj H
   go_enter Try.func3, Try.ntmps3
   go_wp2_with (first | ((with_reducible refine gate_dst (N := 1) rfl ?_); (try (refine gate_guard (by rfl) ?_; dsimp only)); refine box_event ?hg (N := 1) ?hd (cs := #[.int .i64 a0_0, .int .i64 a0_1, .int .i64 a0_2, .bool a0_3, .slice A0_4 l0_4.length c0_4, .slice A0_5 l0_5.length c0_5]) (t := 25) ?hr ?_; (case hd => rfl); (case hg => rfl); (case hr => first | (go_simp; done) | (go_simp; rfl)); intro gb367 hg w76 hbox hb; have BK367 := Aside0.mk (hbox); have GW367 := gs_ HB hg; have GE367 := gs_ HB hg; replace HB := bs_ HB hb; clear hb hbox hg) | ((with_reducible refine gate_callee (f := 10) rfl ?_); refine goesL_ (some 7) rfl rfl Try.func10 (by kernel_rfl) rfl #[] rfl (by (try simp only [List.map_toArray, List.map_cons, List.map_nil]); first | done | rfl | (simp only [List.length_drop, List.length_take]; rfl)) ?_; (with_reducible refine (waypointlaw32_awake.calls  true _ A2.out).mono ?_); rintro e w77 ⟨rfl, hb⟩; refine ⟨_, rfl, ?_⟩; replace BK367 := bb_ BK367 hb; replace HB := Aside0.mk (below_step (by repeat (first | (with_reducible first | exact HB.out | apply bA | apply bN | apply bD | apply bS GE367.out) | exact HB.out)) hb); (try clear hb); (try clear hb2); (try clear hk); (try clear hi); obtain ⟨hcz78_0, hcz78_1, hcz78_2, hcz78_3, hcz78_4, hcz78_5, hfz78_0, hfz78_1, hfz78_2, hfz78_3, hfz78_4, hfz78_5⟩ := c6_ BK367) | ((with_reducible refine gate_callee (f := 11) rfl ?_); refine goesL_ (some 10) rfl rfl Try.func11 (by kernel_rfl) rfl #[.agg #[.int .i64 a0_0, .int .i64 a0_1, .int .i64 a0_2, .bool a0_3, .slice A0_4 l0_4.length c0_4, .slice A0_5 l0_5.length c0_5]] rfl (by (try simp only [List.map_toArray, List.map_cons, List.map_nil]); first | done | rfl | (simp only [List.length_drop, List.length_take]; rfl)) ?_; (with_reducible refine (waypointref32_Few.calls a0_0 a0_1 a0_2 a0_3 _ _ l0_4 _ _ l0_5 false _ ?side1 ?side2 ?side3 ?side4 A4.out).mono ?_); (case side1 => exact cs_ HR0_4 HB); (case side2 => exact HC0_4.out); (case side3 => exact cs_ HR0_5 HB); (case side4 => exact HC0_5.out); rintro e w79 ⟨rfl, hb⟩; refine ⟨_, rfl, ?_⟩; replace BK367 := bb_ BK367 hb; replace HB := Aside0.mk (below_step (by repeat (first | (with_reducible first | exact HB.out | apply bA | apply bN | apply bD | apply bS GE367.out) | exact HB.out)) hb); (try clear hb); (try clear hb2); (try clear hk); (try clear hi)))
   go_ret
   exact ⟨by first | rfl | (simp [errW_none, errW_some] <;> rfl) | (simp [*, errW_none, errW_some] <;> rfl), by repeat (first | (with_reducible first | exact HB.out | apply bA | apply bN | apply bD | apply bS GE367.out) | exact HB.out)⟩
 ·replace c3 := Bool.eq_false_iff.mpr c3
  subst c3
  have H1 : (none) = some r := by rw [if_neg (show ¬ (false = true) by decide)] at H; exact H
  clear H
  have H := H1
  clear H1
  exact absurd H (by simp)

end Go.Proofs.Ytmknjjfdlkgidaa.HLsc
