-- LAID by wip/hand.py, a program of this repository, over the kit's print: contracts of our own are put in. Lean checks it.
import Derived.Test.YtmknjjfdlkgidaaHLscx0
import Derived.Test.YtmknjjfdlkgidaaHLscx4
import Derived.Test.YtmknjjfdlkgidaaHLscx6
import Derived.Test.YtmknjjfdlkgidaaHLscx10
import Derived.Test.YtmknjjfdlkgidaaHLscx12
namespace Go.Proofs.Ytmknjjfdlkgidaa.HLsc
open Go.RowKit Go.Proofs.YtmknjjfdlkgidaaW.PrintWords Go.Proofs.YtmknjjfdlkgidaaW.PrintLast Go.Proofs.YtmknjjfdlkgidaaW.PrintMore
attribute [local go_sem] gtr_str leq_str max2_int min2_int max_two min_two max_three min_three max_four min_four   -- for this text's walks alone
set_option linter.unusedVariables false
set_option linter.unusedSimpArgs false

/-! ### waypointlaw32_LsaPurges: function 7 -/
mutual
def waypointlaw32_LsaPurges.j0 : Nat → Bool → Int → Int → Int → Bool → List (S43) → List (S56) → Int → Int → Int → Bool → List (S43) → List (S56) → Option (Bool)
 | 0, _, _, _, _, _, _, _, _, _, _, _, _, _ => none
 | k + 1, x28, x444000, x444001, x444002, x444003, x444004, x444005, x445000, x445001, x445002, x445003, x445004, x445005 => if x28 = true then (some true) else (waypointlaw32_LsaPurges.l0 k 0 x444000 x444001 x444002 x444003 x444004 x444005 x444000 x445001 x445002 x445003 x445004 x445005)
def waypointlaw32_LsaPurges.l0 : Nat → Int → Int → Int → Int → Bool → List (S43) → List (S56) → Int → Int → Int → Bool → List (S43) → List (S56) → Option (Bool)
 | 0, _, _, _, _, _, _, _, _, _, _, _, _, _ => none
 | k + 1, x5, x444000, x444001, x444002, x444003, x444004, x444005, x445000, x445001, x445002, x445003, x445004, x445005 => if x5 < (x445004.length : Int) then (if 0 ≤ x5 then (if ((rd_T43 x445004 x5).f0) = x445000 then (some true) else (waypointlaw32_LsaPurges.l0 k (wrap64 (x5 + 1)) x444000 x444001 x444002 x444003 x444004 x444005 x445000 x445001 x445002 x445003 x445004 x445005)) else (none)) else ((lsa_Purge.f k x444000 x444001 x444002 x444003 x444004 x444005).bind fun bt451 => (if bt451.2.2.2.2.2.2 = 0 then ((lsa_Valid.f k bt451.1 bt451.2.1 bt451.2.2.1 bt451.2.2.2.1 bt451.2.2.2.2.1 bt451.2.2.2.2.2.1).bind fun t463 => (waypointlaw32_LsaPurges.j2 k (!t463) x444000 x444001 x444002 x444003 x444004 x444005 x445000 x445001 x445002 x445003 x445004 x445005 bt451.1 bt451.2.1 bt451.2.2.1 bt451.2.2.2.1 bt451.2.2.2.2.1 bt451.2.2.2.2.2.1)) else (waypointlaw32_LsaPurges.j2 k true x444000 x444001 x444002 x444003 x444004 x444005 x445000 x445001 x445002 x445003 x445004 x445005 bt451.1 bt451.2.1 bt451.2.2.1 bt451.2.2.2.1 bt451.2.2.2.2.1 bt451.2.2.2.2.2.1)))
def waypointlaw32_LsaPurges.j2 : Nat → Bool → Int → Int → Int → Bool → List (S43) → List (S56) → Int → Int → Int → Bool → List (S43) → List (S56) → Int → Int → Int → Bool → List (S43) → List (S56) → Option (Bool)
 | 0, _, _, _, _, _, _, _, _, _, _, _, _, _, _, _, _, _, _, _ => none
 | k + 1, x59, x444000, x444001, x444002, x444003, x444004, x444005, x445000, x445001, x445002, x445003, x445004, x445005, x463000, x463001, x463002, x463003, x463004, x463005 => if x59 = true then (none) else (if x445001 > x444001 then (waypointlaw32_LsaPurges.j3 k (-1) x444000 x444001 x444002 x444003 x444004 x444005 x445000 x445001 x445002 x445003 x445004 x445005 x463000 x463001 x463002 x463003 x463004 x463005) else (waypointlaw32_LsaPurges.j3 k 1 x444000 x444001 x444002 x444003 x444004 x444005 x445000 x445001 x445002 x445003 x445004 x445005 x463000 x463001 x463002 x463003 x463004 x463005))
def waypointlaw32_LsaPurges.j3 : Nat → Int → Int → Int → Int → Bool → List (S43) → List (S56) → Int → Int → Int → Bool → List (S43) → List (S56) → Int → Int → Int → Bool → List (S43) → List (S56) → Option (Bool)
 | 0, _, _, _, _, _, _, _, _, _, _, _, _, _, _, _, _, _, _, _ => none
 | k + 1, x8, x444000, x444001, x444002, x444003, x444004, x444005, x445000, x445001, x445002, x445003, x445004, x445005, x463000, x463001, x463002, x463003, x463004, x463005 => if x445001 = x444001 then (if x445002 = 3600 then (waypointlaw32_LsaPurges.j4 k 0 x445000 x445001 x445002 x445003 x445004 x445005 x463000 x463001 x463002 x463003 x463004 x463005) else (waypointlaw32_LsaPurges.j4 k x8 x445000 x445001 x445002 x445003 x445004 x445005 x463000 x463001 x463002 x463003 x463004 x463005)) else ((lsa_Newer.f k x463000 x463001 x463002 x463003 x463004 x463005 x445000 x445001 x445002 x445003 x445004 x445005).bind fun t465 => (some (t465 == x8)))
def waypointlaw32_LsaPurges.j4 : Nat → Int → Int → Int → Int → Bool → List (S43) → List (S56) → Int → Int → Int → Bool → List (S43) → List (S56) → Option (Bool)
 | 0, _, _, _, _, _, _, _, _, _, _, _, _, _ => none
 | k + 1, x8, x445000, x445001, x445002, x445003, x445004, x445005, x463000, x463001, x463002, x463003, x463004, x463005 => (lsa_Newer.f k x463000 x463001 x463002 x463003 x463004 x463005 x445000 x445001 x445002 x445003 x445004 x445005).bind fun t464 => (some (t464 == x8))
end
def waypointlaw32_LsaPurges.f (k : Nat) (a0_0 : Int) (a0_1 : Int) (a0_2 : Int) (a0_3 : Bool) (l0_4 : List (S43)) (l0_5 : List (S56)) (a1_0 : Int) (a1_1 : Int) (a1_2 : Int) (a1_3 : Bool) (l1_4 : List (S43)) (l1_5 : List (S56)) : Option (Bool) := (waypointlaw32_awake.f).bind fun t445 => (if t445 = true then ((waypointref32_Few.f a0_0 a0_1 a0_2 a0_3 l0_4 l0_5).bind fun t446 => (if t446 = true then ((waypointref32_Few.f a1_0 a1_1 a1_2 a1_3 l1_4 l1_5).bind fun t447 => (if t447 = true then ((waypointref32_Valid.f k a0_0 a0_1 a0_2 a0_3 l0_4 l0_5).bind fun t448 => (if t448 = true then ((waypointref32_Valid.f k a1_0 a1_1 a1_2 a1_3 l1_4 l1_5).bind fun t449 => (waypointlaw32_LsaPurges.j0 k (!t449) a0_0 a0_1 a0_2 a0_3 l0_4 l0_5 a1_0 a1_1 a1_2 a1_3 l1_4 l1_5)) else (waypointlaw32_LsaPurges.j0 k true a0_0 a0_1 a0_2 a0_3 l0_4 l0_5 a1_0 a1_1 a1_2 a1_3 l1_4 l1_5))) else (waypointlaw32_LsaPurges.j0 k true a0_0 a0_1 a0_2 a0_3 l0_4 l0_5 a1_0 a1_1 a1_2 a1_3 l1_4 l1_5))) else (waypointlaw32_LsaPurges.j0 k true a0_0 a0_1 a0_2 a0_3 l0_4 l0_5 a1_0 a1_1 a1_2 a1_3 l1_4 l1_5))) else (none))
theorem waypointlaw32_LsaPurges.mono_l : ∀ k, (∀ y0 y1 y2 y3 y4 y5 y6 y7 y8 y9 y10 y11 y12, LeO (waypointlaw32_LsaPurges.j0 k y0 y1 y2 y3 y4 y5 y6 y7 y8 y9 y10 y11 y12) (waypointlaw32_LsaPurges.j0 (k + 1) y0 y1 y2 y3 y4 y5 y6 y7 y8 y9 y10 y11 y12)) ∧ (∀ y0 y1 y2 y3 y4 y5 y6 y7 y8 y9 y10 y11 y12, LeO (waypointlaw32_LsaPurges.l0 k y0 y1 y2 y3 y4 y5 y6 y7 y8 y9 y10 y11 y12) (waypointlaw32_LsaPurges.l0 (k + 1) y0 y1 y2 y3 y4 y5 y6 y7 y8 y9 y10 y11 y12)) ∧ (∀ y0 y1 y2 y3 y4 y5 y6 y7 y8 y9 y10 y11 y12 y13 y14 y15 y16 y17 y18, LeO (waypointlaw32_LsaPurges.j2 k y0 y1 y2 y3 y4 y5 y6 y7 y8 y9 y10 y11 y12 y13 y14 y15 y16 y17 y18) (waypointlaw32_LsaPurges.j2 (k + 1) y0 y1 y2 y3 y4 y5 y6 y7 y8 y9 y10 y11 y12 y13 y14 y15 y16 y17 y18)) ∧ (∀ y0 y1 y2 y3 y4 y5 y6 y7 y8 y9 y10 y11 y12 y13 y14 y15 y16 y17 y18, LeO (waypointlaw32_LsaPurges.j3 k y0 y1 y2 y3 y4 y5 y6 y7 y8 y9 y10 y11 y12 y13 y14 y15 y16 y17 y18) (waypointlaw32_LsaPurges.j3 (k + 1) y0 y1 y2 y3 y4 y5 y6 y7 y8 y9 y10 y11 y12 y13 y14 y15 y16 y17 y18)) ∧ (∀ y0 y1 y2 y3 y4 y5 y6 y7 y8 y9 y10 y11 y12, LeO (waypointlaw32_LsaPurges.j4 k y0 y1 y2 y3 y4 y5 y6 y7 y8 y9 y10 y11 y12) (waypointlaw32_LsaPurges.j4 (k + 1) y0 y1 y2 y3 y4 y5 y6 y7 y8 y9 y10 y11 y12))
 | 0 => ⟨fun _ _ _ _ _ _ _ _ _ _ _ _ _ r h => by simp [waypointlaw32_LsaPurges.j0] at h, fun _ _ _ _ _ _ _ _ _ _ _ _ _ r h => by simp [waypointlaw32_LsaPurges.l0] at h, fun _ _ _ _ _ _ _ _ _ _ _ _ _ _ _ _ _ _ _ r h => by simp [waypointlaw32_LsaPurges.j2] at h, fun _ _ _ _ _ _ _ _ _ _ _ _ _ _ _ _ _ _ _ r h => by simp [waypointlaw32_LsaPurges.j3] at h, fun _ _ _ _ _ _ _ _ _ _ _ _ _ r h => by simp [waypointlaw32_LsaPurges.j4] at h⟩
 | k + 1 => by
  obtain ⟨ih0, ih1, ih2, ih3, ih4⟩ := waypointlaw32_LsaPurges.mono_l k
  refine ⟨?_, ?_, ?_, ?_, ?_⟩
  ·intro y0 y1 y2 y3 y4 y5 y6 y7 y8 y9 y10 y11 y12
   unfold waypointlaw32_LsaPurges.j0
   repeat' first
   | (with_reducible exact ih0 _ _ _ _ _ _ _ _ _ _ _ _ _)
   | (with_reducible exact ih1 _ _ _ _ _ _ _ _ _ _ _ _ _)
   | (with_reducible exact ih2 _ _ _ _ _ _ _ _ _ _ _ _ _ _ _ _ _ _ _)
   | (with_reducible exact ih3 _ _ _ _ _ _ _ _ _ _ _ _ _ _ _ _ _ _ _)
   | (with_reducible exact ih4 _ _ _ _ _ _ _ _ _ _ _ _ _)
   | (with_reducible exact lsa_Newer.mono _ _ _ _ _ _ _ _ _ _ _ _ _)
   | (with_reducible exact lsa_Purge.mono _ _ _ _ _ _ _)
   | (with_reducible exact lsa_Valid.mono _ _ _ _ _ _ _)
   | (with_reducible exact waypointref32_Valid.mono _ _ _ _ _ _ _)
   | (with_reducible exact LeO.refl _)
   | (with_reducible exact LeO.none _)
   | (with_reducible refine LeO.ite ?_ ?_)
   | (with_reducible refine LeO.bind ?_ (fun _ => ?_))
   | exact ih0 _ _ _ _ _ _ _ _ _ _ _ _ _
   | exact ih1 _ _ _ _ _ _ _ _ _ _ _ _ _
   | exact ih2 _ _ _ _ _ _ _ _ _ _ _ _ _ _ _ _ _ _ _
   | exact ih3 _ _ _ _ _ _ _ _ _ _ _ _ _ _ _ _ _ _ _
   | exact ih4 _ _ _ _ _ _ _ _ _ _ _ _ _
   | exact lsa_Newer.mono _ _ _ _ _ _ _ _ _ _ _ _ _
   | exact lsa_Purge.mono _ _ _ _ _ _ _
   | exact lsa_Valid.mono _ _ _ _ _ _ _
   | exact waypointref32_Valid.mono _ _ _ _ _ _ _
   | exact LeO.none _
   | refine LeO.ite ?_ ?_
   | refine LeO.bind ?_ (fun _ => ?_)
  ·intro y0 y1 y2 y3 y4 y5 y6 y7 y8 y9 y10 y11 y12
   unfold waypointlaw32_LsaPurges.l0
   repeat' first
   | (with_reducible exact ih0 _ _ _ _ _ _ _ _ _ _ _ _ _)
   | (with_reducible exact ih1 _ _ _ _ _ _ _ _ _ _ _ _ _)
   | (with_reducible exact ih2 _ _ _ _ _ _ _ _ _ _ _ _ _ _ _ _ _ _ _)
   | (with_reducible exact ih3 _ _ _ _ _ _ _ _ _ _ _ _ _ _ _ _ _ _ _)
   | (with_reducible exact ih4 _ _ _ _ _ _ _ _ _ _ _ _ _)
   | (with_reducible exact lsa_Newer.mono _ _ _ _ _ _ _ _ _ _ _ _ _)
   | (with_reducible exact lsa_Purge.mono _ _ _ _ _ _ _)
   | (with_reducible exact lsa_Valid.mono _ _ _ _ _ _ _)
   | (with_reducible exact waypointref32_Valid.mono _ _ _ _ _ _ _)
   | (with_reducible exact LeO.refl _)
   | (with_reducible exact LeO.none _)
   | (with_reducible refine LeO.ite ?_ ?_)
   | (with_reducible refine LeO.bind ?_ (fun _ => ?_))
   | exact ih0 _ _ _ _ _ _ _ _ _ _ _ _ _
   | exact ih1 _ _ _ _ _ _ _ _ _ _ _ _ _
   | exact ih2 _ _ _ _ _ _ _ _ _ _ _ _ _ _ _ _ _ _ _
   | exact ih3 _ _ _ _ _ _ _ _ _ _ _ _ _ _ _ _ _ _ _
   | exact ih4 _ _ _ _ _ _ _ _ _ _ _ _ _
   | exact lsa_Newer.mono _ _ _ _ _ _ _ _ _ _ _ _ _
   | exact lsa_Purge.mono _ _ _ _ _ _ _
   | exact lsa_Valid.mono _ _ _ _ _ _ _
   | exact waypointref32_Valid.mono _ _ _ _ _ _ _
   | exact LeO.none _
   | refine LeO.ite ?_ ?_
   | refine LeO.bind ?_ (fun _ => ?_)
  ·intro y0 y1 y2 y3 y4 y5 y6 y7 y8 y9 y10 y11 y12 y13 y14 y15 y16 y17 y18
   unfold waypointlaw32_LsaPurges.j2
   repeat' first
   | (with_reducible exact ih0 _ _ _ _ _ _ _ _ _ _ _ _ _)
   | (with_reducible exact ih1 _ _ _ _ _ _ _ _ _ _ _ _ _)
   | (with_reducible exact ih2 _ _ _ _ _ _ _ _ _ _ _ _ _ _ _ _ _ _ _)
   | (with_reducible exact ih3 _ _ _ _ _ _ _ _ _ _ _ _ _ _ _ _ _ _ _)
   | (with_reducible exact ih4 _ _ _ _ _ _ _ _ _ _ _ _ _)
   | (with_reducible exact lsa_Newer.mono _ _ _ _ _ _ _ _ _ _ _ _ _)
   | (with_reducible exact lsa_Purge.mono _ _ _ _ _ _ _)
   | (with_reducible exact lsa_Valid.mono _ _ _ _ _ _ _)
   | (with_reducible exact waypointref32_Valid.mono _ _ _ _ _ _ _)
   | (with_reducible exact LeO.refl _)
   | (with_reducible exact LeO.none _)
   | (with_reducible refine LeO.ite ?_ ?_)
   | (with_reducible refine LeO.bind ?_ (fun _ => ?_))
   | exact ih0 _ _ _ _ _ _ _ _ _ _ _ _ _
   | exact ih1 _ _ _ _ _ _ _ _ _ _ _ _ _
   | exact ih2 _ _ _ _ _ _ _ _ _ _ _ _ _ _ _ _ _ _ _
   | exact ih3 _ _ _ _ _ _ _ _ _ _ _ _ _ _ _ _ _ _ _
   | exact ih4 _ _ _ _ _ _ _ _ _ _ _ _ _
   | exact lsa_Newer.mono _ _ _ _ _ _ _ _ _ _ _ _ _
   | exact lsa_Purge.mono _ _ _ _ _ _ _
   | exact lsa_Valid.mono _ _ _ _ _ _ _
   | exact waypointref32_Valid.mono _ _ _ _ _ _ _
   | exact LeO.none _
   | refine LeO.ite ?_ ?_
   | refine LeO.bind ?_ (fun _ => ?_)
  ·intro y0 y1 y2 y3 y4 y5 y6 y7 y8 y9 y10 y11 y12 y13 y14 y15 y16 y17 y18
   unfold waypointlaw32_LsaPurges.j3
   repeat' first
   | (with_reducible exact ih0 _ _ _ _ _ _ _ _ _ _ _ _ _)
   | (with_reducible exact ih1 _ _ _ _ _ _ _ _ _ _ _ _ _)
   | (with_reducible exact ih2 _ _ _ _ _ _ _ _ _ _ _ _ _ _ _ _ _ _ _)
   | (with_reducible exact ih3 _ _ _ _ _ _ _ _ _ _ _ _ _ _ _ _ _ _ _)
   | (with_reducible exact ih4 _ _ _ _ _ _ _ _ _ _ _ _ _)
   | (with_reducible exact lsa_Newer.mono _ _ _ _ _ _ _ _ _ _ _ _ _)
   | (with_reducible exact lsa_Purge.mono _ _ _ _ _ _ _)
   | (with_reducible exact lsa_Valid.mono _ _ _ _ _ _ _)
   | (with_reducible exact waypointref32_Valid.mono _ _ _ _ _ _ _)
   | (with_reducible exact LeO.refl _)
   | (with_reducible exact LeO.none _)
   | (with_reducible refine LeO.ite ?_ ?_)
   | (with_reducible refine LeO.bind ?_ (fun _ => ?_))
   | exact ih0 _ _ _ _ _ _ _ _ _ _ _ _ _
   | exact ih1 _ _ _ _ _ _ _ _ _ _ _ _ _
   | exact ih2 _ _ _ _ _ _ _ _ _ _ _ _ _ _ _ _ _ _ _
   | exact ih3 _ _ _ _ _ _ _ _ _ _ _ _ _ _ _ _ _ _ _
   | exact ih4 _ _ _ _ _ _ _ _ _ _ _ _ _
   | exact lsa_Newer.mono _ _ _ _ _ _ _ _ _ _ _ _ _
   | exact lsa_Purge.mono _ _ _ _ _ _ _
   | exact lsa_Valid.mono _ _ _ _ _ _ _
   | exact waypointref32_Valid.mono _ _ _ _ _ _ _
   | exact LeO.none _
   | refine LeO.ite ?_ ?_
   | refine LeO.bind ?_ (fun _ => ?_)
  ·intro y0 y1 y2 y3 y4 y5 y6 y7 y8 y9 y10 y11 y12
   unfold waypointlaw32_LsaPurges.j4
   repeat' first
   | (with_reducible exact ih0 _ _ _ _ _ _ _ _ _ _ _ _ _)
   | (with_reducible exact ih1 _ _ _ _ _ _ _ _ _ _ _ _ _)
   | (with_reducible exact ih2 _ _ _ _ _ _ _ _ _ _ _ _ _ _ _ _ _ _ _)
   | (with_reducible exact ih3 _ _ _ _ _ _ _ _ _ _ _ _ _ _ _ _ _ _ _)
   | (with_reducible exact ih4 _ _ _ _ _ _ _ _ _ _ _ _ _)
   | (with_reducible exact lsa_Newer.mono _ _ _ _ _ _ _ _ _ _ _ _ _)
   | (with_reducible exact lsa_Purge.mono _ _ _ _ _ _ _)
   | (with_reducible exact lsa_Valid.mono _ _ _ _ _ _ _)
   | (with_reducible exact waypointref32_Valid.mono _ _ _ _ _ _ _)
   | (with_reducible exact LeO.refl _)
   | (with_reducible exact LeO.none _)
   | (with_reducible refine LeO.ite ?_ ?_)
   | (with_reducible refine LeO.bind ?_ (fun _ => ?_))
   | exact ih0 _ _ _ _ _ _ _ _ _ _ _ _ _
   | exact ih1 _ _ _ _ _ _ _ _ _ _ _ _ _
   | exact ih2 _ _ _ _ _ _ _ _ _ _ _ _ _ _ _ _ _ _ _
   | exact ih3 _ _ _ _ _ _ _ _ _ _ _ _ _ _ _ _ _ _ _
   | exact ih4 _ _ _ _ _ _ _ _ _ _ _ _ _
   | exact lsa_Newer.mono _ _ _ _ _ _ _ _ _ _ _ _ _
   | exact lsa_Purge.mono _ _ _ _ _ _ _
   | exact lsa_Valid.mono _ _ _ _ _ _ _
   | exact waypointref32_Valid.mono _ _ _ _ _ _ _
   | exact LeO.none _
   | refine LeO.ite ?_ ?_
   | refine LeO.bind ?_ (fun _ => ?_)
theorem waypointlaw32_LsaPurges.mono : ∀ a0 a1 a2 a3 a4 a5 a6 a7 a8 a9 a10 a11 k, LeO (waypointlaw32_LsaPurges.f k a0 a1 a2 a3 a4 a5 a6 a7 a8 a9 a10 a11) (waypointlaw32_LsaPurges.f (k + 1) a0 a1 a2 a3 a4 a5 a6 a7 a8 a9 a10 a11) := by
 intro a0 a1 a2 a3 a4 a5 a6 a7 a8 a9 a10 a11 k
 obtain ⟨ih0, ih1, ih2, ih3, ih4⟩ := waypointlaw32_LsaPurges.mono_l k
 unfold waypointlaw32_LsaPurges.f
 repeat' first
   | (with_reducible exact ih0 _ _ _ _ _ _ _ _ _ _ _ _ _)
   | (with_reducible exact ih1 _ _ _ _ _ _ _ _ _ _ _ _ _)
   | (with_reducible exact ih2 _ _ _ _ _ _ _ _ _ _ _ _ _ _ _ _ _ _ _)
   | (with_reducible exact ih3 _ _ _ _ _ _ _ _ _ _ _ _ _ _ _ _ _ _ _)
   | (with_reducible exact ih4 _ _ _ _ _ _ _ _ _ _ _ _ _)
   | (with_reducible exact lsa_Newer.mono _ _ _ _ _ _ _ _ _ _ _ _ _)
   | (with_reducible exact lsa_Purge.mono _ _ _ _ _ _ _)
   | (with_reducible exact lsa_Valid.mono _ _ _ _ _ _ _)
   | (with_reducible exact waypointref32_Valid.mono _ _ _ _ _ _ _)
   | (with_reducible exact LeO.refl _)
   | (with_reducible exact LeO.none _)
   | (with_reducible refine LeO.ite ?_ ?_)
   | (with_reducible refine LeO.bind ?_ (fun _ => ?_))
   | exact ih0 _ _ _ _ _ _ _ _ _ _ _ _ _
   | exact ih1 _ _ _ _ _ _ _ _ _ _ _ _ _
   | exact ih2 _ _ _ _ _ _ _ _ _ _ _ _ _ _ _ _ _ _ _
   | exact ih3 _ _ _ _ _ _ _ _ _ _ _ _ _ _ _ _ _ _ _
   | exact ih4 _ _ _ _ _ _ _ _ _ _ _ _ _
   | exact lsa_Newer.mono _ _ _ _ _ _ _ _ _ _ _ _ _
   | exact lsa_Purge.mono _ _ _ _ _ _ _
   | exact lsa_Valid.mono _ _ _ _ _ _ _
   | exact waypointref32_Valid.mono _ _ _ _ _ _ _
   | exact LeO.none _
   | refine LeO.ite ?_ ?_
   | refine LeO.bind ?_ (fun _ => ?_)
set_option maxHeartbeats 8000000 in
set_option maxRecDepth 100000 in
theorem waypointlaw32_LsaPurges.calls (k : Nat) (a0_0 : Int) (a0_1 : Int) (a0_2 : Int) (a0_3 : Bool) (A0_4 : Option Addr) (c0_4 : Nat) (l0_4 : List (S43)) (A0_5 : Option Addr) (c0_5 : Nat) (l0_5 : List (S56)) (a1_0 : Int) (a1_1 : Int) (a1_2 : Int) (a1_3 : Bool) (A1_4 : Option Addr) (c1_4 : Nat) (l1_4 : List (S43)) (A1_5 : Option Addr) (c1_5 : Nat) (l1_5 : List (S56)) (r : Bool) (w : World) (hr0_4 : Kd.C k43 w A0_4 l0_4.length l0_4) (hc0_4 : l0_4.length ≤ c0_4) (hr0_5 : Kd.C k56 w A0_5 l0_5.length l0_5) (hc0_5 : l0_5.length ≤ c0_5) (hr1_4 : Kd.C k43 w A1_4 l1_4.length l1_4) (hc1_4 : l1_4.length ≤ c1_4) (hr1_5 : Kd.C k56 w A1_5 l1_5.length l1_5) (hc1_5 : l1_5.length ≤ c1_5) (h : waypointlaw32_LsaPurges.f k a0_0 a0_1 a0_2 a0_3 l0_4 l0_5 a1_0 a1_1 a1_2 a1_3 l1_4 l1_5 = some r) :
  Calls Try.prog 7 #[.agg #[.int .i64 a0_0, .int .i64 a0_1, .int .i64 a0_2, .bool a0_3, .slice A0_4 l0_4.length c0_4, .slice A0_5 l0_5.length c0_5], .agg #[.int .i64 a1_0, .int .i64 a1_1, .int .i64 a1_2, .bool a1_3, .slice A1_4 l1_4.length c1_4, .slice A1_5 l1_5.length c1_5]] w fun e w' => e = .returned (.bool r) ∧ Below w.heap.size w w' := by
 have hu25 := Try.underlying25
 have HR0_4 := Aside0.mk hr0_4
 have HC0_4 := Aside0.mk hc0_4
 clear hr0_4 hc0_4
 have HR0_5 := Aside0.mk hr0_5
 have HC0_5 := Aside0.mk hc0_5
 clear hr0_5 hc0_5
 have HR1_4 := Aside0.mk hr1_4
 have HC1_4 := Aside0.mk hc1_4
 clear hr1_4 hc1_4
 have HR1_5 := Aside0.mk hr1_5
 have HC1_5 := Aside0.mk hc1_5
 clear hr1_5 hc1_5
 have HB := Aside0.mk (Below.refl w.heap.size w)
 have H : ((waypointlaw32_awake.f).bind fun t445 => (if t445 = true then ((waypointref32_Few.f a0_0 a0_1 a0_2 a0_3 l0_4 l0_5).bind fun t446 => (if t446 = true then ((waypointref32_Few.f a1_0 a1_1 a1_2 a1_3 l1_4 l1_5).bind fun t447 => (if t447 = true then ((waypointref32_Valid.f k a0_0 a0_1 a0_2 a0_3 l0_4 l0_5).bind fun t448 => (if t448 = true then ((waypointref32_Valid.f k a1_0 a1_1 a1_2 a1_3 l1_4 l1_5).bind fun t449 => (waypointlaw32_LsaPurges.j0 k (!t449) a0_0 a0_1 a0_2 a0_3 l0_4 l0_5 a1_0 a1_1 a1_2 a1_3 l1_4 l1_5)) else (waypointlaw32_LsaPurges.j0 k true a0_0 a0_1 a0_2 a0_3 l0_4 l0_5 a1_0 a1_1 a1_2 a1_3 l1_4 l1_5))) else (waypointlaw32_LsaPurges.j0 k true a0_0 a0_1 a0_2 a0_3 l0_4 l0_5 a1_0 a1_1 a1_2 a1_3 l1_4 l1_5))) else (waypointlaw32_LsaPurges.j0 k true a0_0 a0_1 a0_2 a0_3 l0_4 l0_5 a1_0 a1_1 a1_2 a1_3 l1_4 l1_5))) else (none))) = some r := h
 clear h
 replace H := Option.bind_eq_some_iff.mp H
 obtain ⟨t445, A30, H⟩ := H
 replace H : (if t445 = true then ((waypointref32_Few.f a0_0 a0_1 a0_2 a0_3 l0_4 l0_5).bind fun t446 => (if t446 = true then ((waypointref32_Few.f a1_0 a1_1 a1_2 a1_3 l1_4 l1_5).bind fun t447 => (if t447 = true then ((waypointref32_Valid.f k a0_0 a0_1 a0_2 a0_3 l0_4 l0_5).bind fun t448 => (if t448 = true then ((waypointref32_Valid.f k a1_0 a1_1 a1_2 a1_3 l1_4 l1_5).bind fun t449 => (waypointlaw32_LsaPurges.j0 k (!t449) a0_0 a0_1 a0_2 a0_3 l0_4 l0_5 a1_0 a1_1 a1_2 a1_3 l1_4 l1_5)) else (waypointlaw32_LsaPurges.j0 k true a0_0 a0_1 a0_2 a0_3 l0_4 l0_5 a1_0 a1_1 a1_2 a1_3 l1_4 l1_5))) else (waypointlaw32_LsaPurges.j0 k true a0_0 a0_1 a0_2 a0_3 l0_4 l0_5 a1_0 a1_1 a1_2 a1_3 l1_4 l1_5))) else (waypointlaw32_LsaPurges.j0 k true a0_0 a0_1 a0_2 a0_3 l0_4 l0_5 a1_0 a1_1 a1_2 a1_3 l1_4 l1_5))) else (none)) = some r := H
 have A3 := Aside0.mk A30
 clear A30
 by_cases c4 : t445 = true
 ·subst c4
  have H1 : ((waypointref32_Few.f a0_0 a0_1 a0_2 a0_3 l0_4 l0_5).bind fun t446 => (if t446 = true then ((waypointref32_Few.f a1_0 a1_1 a1_2 a1_3 l1_4 l1_5).bind fun t447 => (if t447 = true then ((waypointref32_Valid.f k a0_0 a0_1 a0_2 a0_3 l0_4 l0_5).bind fun t448 => (if t448 = true then ((waypointref32_Valid.f k a1_0 a1_1 a1_2 a1_3 l1_4 l1_5).bind fun t449 => (waypointlaw32_LsaPurges.j0 k (!t449) a0_0 a0_1 a0_2 a0_3 l0_4 l0_5 a1_0 a1_1 a1_2 a1_3 l1_4 l1_5)) else (waypointlaw32_LsaPurges.j0 k true a0_0 a0_1 a0_2 a0_3 l0_4 l0_5 a1_0 a1_1 a1_2 a1_3 l1_4 l1_5))) else (waypointlaw32_LsaPurges.j0 k true a0_0 a0_1 a0_2 a0_3 l0_4 l0_5 a1_0 a1_1 a1_2 a1_3 l1_4 l1_5))) else (waypointlaw32_LsaPurges.j0 k true a0_0 a0_1 a0_2 a0_3 l0_4 l0_5 a1_0 a1_1 a1_2 a1_3 l1_4 l1_5))) = some r := by rw [if_pos rfl] at H; exact H
  clear H
  have H := H1
  clear H1
  have HC5 := Aside0.mk H
  clear H
  go_enter Try.func7, Try.ntmps7
  go_upto_region 3 with (first | ((with_reducible refine gate_dst (N := 2) rfl ?_); refine bx_ 2 #[.int .i64 a0_0, .int .i64 a0_1, .int .i64 a0_2, .bool a0_3, .slice A0_4 l0_4.length c0_4, .slice A0_5 l0_5.length c0_5] 25 rfl rfl ?hr ?_; (case hr => go_simp; try rfl); intro gb443 hg w6 hbox hb; have BK443 := Aside0.mk (hbox); have GW443 := gs_ HB hg; have GE443 := gs_ HB hg; replace HB := bs_ HB hb; clear hb hbox hg) | ((with_reducible refine gate_dst (N := 3) rfl ?_); refine bx_ 3 #[.int .i64 a1_0, .int .i64 a1_1, .int .i64 a1_2, .bool a1_3, .slice A1_4 l1_4.length c1_4, .slice A1_5 l1_5.length c1_5] 25 rfl rfl ?hr ?_; (case hr => go_simp; try rfl); intro gb444 hg w7 hbox hb; have BK444 := Aside0.mk (hbox); have GW444 := Aside0.mk ((by rw [hg]; exact (below_size (by repeat (first | (with_reducible first | exact HB.out | apply bA | apply bN | apply bD | apply bS GE443.out) | exact HB.out))) : w.heap.size ≤ gb444)); have GE444 := Aside0.mk ((by rw [hg]; exact (below_size (by repeat (first | (with_reducible first | exact HB.out | apply bA | apply bN | apply bD | apply bS GE443.out) | exact HB.out))) : w.heap.size ≤ gb444)); have NB443_444 := nl_ BK443 hg; have NB444_443 := ng_ BK443 hg; replace BK443 := bb_ BK443 hb; replace HB := Aside0.mk (below_step (by repeat (first | (with_reducible first | exact HB.out | apply bA | apply bN | apply bD | apply bS GE443.out) | exact HB.out)) hb); clear hb hbox hg) | (go_at_call 10; (with_reducible refine (waypointlaw32_awake.calls  true _ A3.out).mono ?_); rintro e w8 ⟨rfl, hb⟩; replace BK443 := bb_ BK443 hb; replace BK444 := bb_ BK444 hb; replace HB := Aside0.mk (below_step (by repeat (first | (with_reducible first | exact HB.out | apply bA | apply bN | apply bD | apply bS GE443.out | apply bS GE444.out) | exact HB.out)) hb); (try clear hb); (try clear hb2); (try clear hk); (try clear hi)))
  (try simp only [Act.put, List.setIfInBounds_toArray, List.set_cons_zero, List.set_cons_succ])
  go_cut [28] (fun v28 wc => ∃ (kq : Nat) (x28_4 : Bool), v28 = .bool x28_4 ∧ Aside0 (waypointlaw32_LsaPurges.j0 kq x28_4 a0_0 a0_1 a0_2 a0_3 l0_4 l0_5 a1_0 a1_1 a1_2 a1_3 l1_4 l1_5 = some r) ∧ Aside0 (kq ≤ k) ∧ Aside0 (wc.heap[gb443]? = some (.cells #[.int .i64 a0_0, .int .i64 a0_1, .int .i64 a0_2, .bool a0_3, (.slice A0_4 l0_4.length c0_4), (.slice A0_5 l0_5.length c0_5)] 25 (0, 0))) ∧ Aside0 (wc.heap[gb444]? = some (.cells #[.int .i64 a1_0, .int .i64 a1_1, .int .i64 a1_2, .bool a1_3, (.slice A1_4 l1_4.length c1_4), (.slice A1_5 l1_5.length c1_5)] 25 (0, 0))) ∧ Aside0 (Below w.heap.size w wc))
  case first =>
   have H := HC5.out
   clear HC5
   replace H := Option.bind_eq_some_iff.mp H
   obtain ⟨t446, A90, H⟩ := H
   replace H : (if t446 = true then ((waypointref32_Few.f a1_0 a1_1 a1_2 a1_3 l1_4 l1_5).bind fun t447 => (if t447 = true then ((waypointref32_Valid.f k a0_0 a0_1 a0_2 a0_3 l0_4 l0_5).bind fun t448 => (if t448 = true then ((waypointref32_Valid.f k a1_0 a1_1 a1_2 a1_3 l1_4 l1_5).bind fun t449 => (waypointlaw32_LsaPurges.j0 k (!t449) a0_0 a0_1 a0_2 a0_3 l0_4 l0_5 a1_0 a1_1 a1_2 a1_3 l1_4 l1_5)) else (waypointlaw32_LsaPurges.j0 k true a0_0 a0_1 a0_2 a0_3 l0_4 l0_5 a1_0 a1_1 a1_2 a1_3 l1_4 l1_5))) else (waypointlaw32_LsaPurges.j0 k true a0_0 a0_1 a0_2 a0_3 l0_4 l0_5 a1_0 a1_1 a1_2 a1_3 l1_4 l1_5))) else (waypointlaw32_LsaPurges.j0 k true a0_0 a0_1 a0_2 a0_3 l0_4 l0_5 a1_0 a1_1 a1_2 a1_3 l1_4 l1_5)) = some r := H
   have A9 := Aside0.mk A90
   clear A90
   by_cases c10 : t446 = true
   ·subst c10
    have H1 : ((waypointref32_Few.f a1_0 a1_1 a1_2 a1_3 l1_4 l1_5).bind fun t447 => (if t447 = true then ((waypointref32_Valid.f k a0_0 a0_1 a0_2 a0_3 l0_4 l0_5).bind fun t448 => (if t448 = true then ((waypointref32_Valid.f k a1_0 a1_1 a1_2 a1_3 l1_4 l1_5).bind fun t449 => (waypointlaw32_LsaPurges.j0 k (!t449) a0_0 a0_1 a0_2 a0_3 l0_4 l0_5 a1_0 a1_1 a1_2 a1_3 l1_4 l1_5)) else (waypointlaw32_LsaPurges.j0 k true a0_0 a0_1 a0_2 a0_3 l0_4 l0_5 a1_0 a1_1 a1_2 a1_3 l1_4 l1_5))) else (waypointlaw32_LsaPurges.j0 k true a0_0 a0_1 a0_2 a0_3 l0_4 l0_5 a1_0 a1_1 a1_2 a1_3 l1_4 l1_5))) = some r := by rw [if_pos rfl] at H; exact H
    clear H
    have H := H1
    clear H1
    replace H := Option.bind_eq_some_iff.mp H
    obtain ⟨t447, A110, H⟩ := H
    replace H : (if t447 = true then ((waypointref32_Valid.f k a0_0 a0_1 a0_2 a0_3 l0_4 l0_5).bind fun t448 => (if t448 = true then ((waypointref32_Valid.f k a1_0 a1_1 a1_2 a1_3 l1_4 l1_5).bind fun t449 => (waypointlaw32_LsaPurges.j0 k (!t449) a0_0 a0_1 a0_2 a0_3 l0_4 l0_5 a1_0 a1_1 a1_2 a1_3 l1_4 l1_5)) else (waypointlaw32_LsaPurges.j0 k true a0_0 a0_1 a0_2 a0_3 l0_4 l0_5 a1_0 a1_1 a1_2 a1_3 l1_4 l1_5))) else (waypointlaw32_LsaPurges.j0 k true a0_0 a0_1 a0_2 a0_3 l0_4 l0_5 a1_0 a1_1 a1_2 a1_3 l1_4 l1_5)) = some r := H
    have A11 := Aside0.mk A110
    clear A110
    by_cases c12 : t447 = true
    ·subst c12
     have H1 : ((waypointref32_Valid.f k a0_0 a0_1 a0_2 a0_3 l0_4 l0_5).bind fun t448 => (if t448 = true then ((waypointref32_Valid.f k a1_0 a1_1 a1_2 a1_3 l1_4 l1_5).bind fun t449 => (waypointlaw32_LsaPurges.j0 k (!t449) a0_0 a0_1 a0_2 a0_3 l0_4 l0_5 a1_0 a1_1 a1_2 a1_3 l1_4 l1_5)) else (waypointlaw32_LsaPurges.j0 k true a0_0 a0_1 a0_2 a0_3 l0_4 l0_5 a1_0 a1_1 a1_2 a1_3 l1_4 l1_5))) = some r := by rw [if_pos rfl] at H; exact H
     clear H
     have H := H1
     clear H1
     replace H := Option.bind_eq_some_iff.mp H
     obtain ⟨t448, A130, H⟩ := H
     replace H : (if t448 = true then ((waypointref32_Valid.f k a1_0 a1_1 a1_2 a1_3 l1_4 l1_5).bind fun t449 => (waypointlaw32_LsaPurges.j0 k (!t449) a0_0 a0_1 a0_2 a0_3 l0_4 l0_5 a1_0 a1_1 a1_2 a1_3 l1_4 l1_5)) else (waypointlaw32_LsaPurges.j0 k true a0_0 a0_1 a0_2 a0_3 l0_4 l0_5 a1_0 a1_1 a1_2 a1_3 l1_4 l1_5)) = some r := H
     have A13 := Aside0.mk A130
     clear A130
     by_cases c14 : t448 = true
     ·subst c14
      have H1 : ((waypointref32_Valid.f k a1_0 a1_1 a1_2 a1_3 l1_4 l1_5).bind fun t449 => (waypointlaw32_LsaPurges.j0 k (!t449) a0_0 a0_1 a0_2 a0_3 l0_4 l0_5 a1_0 a1_1 a1_2 a1_3 l1_4 l1_5)) = some r := by rw [if_pos rfl] at H; exact H
      clear H
      have H := H1
      clear H1
      replace H := Option.bind_eq_some_iff.mp H
      obtain ⟨t449, A150, H⟩ := H
      replace H : (waypointlaw32_LsaPurges.j0 k (!t449) a0_0 a0_1 a0_2 a0_3 l0_4 l0_5 a1_0 a1_1 a1_2 a1_3 l1_4 l1_5) = some r := H
      have A15 := Aside0.mk A150
      clear A150
      have H' := Aside0.mk H
      clear H
      have hnb16 := NB443_444.out
      have hnc16 := NB444_443.out
      obtain ⟨hcz17_0, hcz17_1, hcz17_2, hcz17_3, hcz17_4, hcz17_5, hfz17_0, hfz17_1, hfz17_2, hfz17_3, hfz17_4, hfz17_5⟩ := c6_ BK443
      go_wp2_with (first | (go_at_call 11; (with_reducible refine (waypointref32_Few.calls a0_0 a0_1 a0_2 a0_3 _ _ l0_4 _ _ l0_5 true _ ?side1 ?side2 ?side3 ?side4 A9.out).mono ?_); (case side1 => exact cs_ HR0_4 HB); (case side2 => exact HC0_4.out); (case side3 => exact cs_ HR0_5 HB); (case side4 => exact HC0_5.out); rintro e w18 ⟨rfl, hb⟩; replace BK443 := bb_ BK443 hb; replace BK444 := bb_ BK444 hb; replace HB := Aside0.mk (below_step (by repeat (first | (with_reducible first | exact HB.out | apply bA | apply bN | apply bD | apply bS GE443.out | apply bS GE444.out) | exact HB.out)) hb); (try clear hb); (try clear hb2); (try clear hk); (try clear hi); obtain ⟨hcz19_0, hcz19_1, hcz19_2, hcz19_3, hcz19_4, hcz19_5, hfz19_0, hfz19_1, hfz19_2, hfz19_3, hfz19_4, hfz19_5⟩ := c6_ BK444) | (go_at_call 11; (with_reducible refine (waypointref32_Few.calls a1_0 a1_1 a1_2 a1_3 _ _ l1_4 _ _ l1_5 true _ ?side1 ?side2 ?side3 ?side4 A11.out).mono ?_); (case side1 => exact cs_ HR1_4 HB); (case side2 => exact HC1_4.out); (case side3 => exact cs_ HR1_5 HB); (case side4 => exact HC1_5.out); rintro e w20 ⟨rfl, hb⟩; replace BK443 := bb_ BK443 hb; replace BK444 := bb_ BK444 hb; replace HB := Aside0.mk (below_step (by repeat (first | (with_reducible first | exact HB.out | apply bA | apply bN | apply bD | apply bS GE443.out | apply bS GE444.out) | exact HB.out)) hb); (try clear hb); (try clear hb2); (try clear hk); (try clear hi); obtain ⟨hcz21_0, hcz21_1, hcz21_2, hcz21_3, hcz21_4, hcz21_5, hfz21_0, hfz21_1, hfz21_2, hfz21_3, hfz21_4, hfz21_5⟩ := c6_ BK443) | (go_at_call 15; (with_reducible refine (waypointref32_Valid.calls k a0_0 a0_1 a0_2 a0_3 _ _ l0_4 _ _ l0_5 true _ ?side1 ?side2 ?side3 ?side4 A13.out).mono ?_); (case side1 => exact cs_ HR0_4 HB); (case side2 => exact HC0_4.out); (case side3 => exact cs_ HR0_5 HB); (case side4 => exact HC0_5.out); rintro e w22 ⟨rfl, hb⟩; replace BK443 := bb_ BK443 hb; replace BK444 := bb_ BK444 hb; replace HB := Aside0.mk (below_step (by repeat (first | (with_reducible first | exact HB.out | apply bA | apply bN | apply bD | apply bS GE443.out | apply bS GE444.out) | exact HB.out)) hb); (try clear hb); (try clear hb2); (try clear hk); (try clear hi); obtain ⟨hcz23_0, hcz23_1, hcz23_2, hcz23_3, hcz23_4, hcz23_5, hfz23_0, hfz23_1, hfz23_2, hfz23_3, hfz23_4, hfz23_5⟩ := c6_ BK444) | (go_at_call 15; (with_reducible refine (waypointref32_Valid.calls k a1_0 a1_1 a1_2 a1_3 _ _ l1_4 _ _ l1_5 t449 _ ?side1 ?side2 ?side3 ?side4 A15.out).mono ?_); (case side1 => exact cs_ HR1_4 HB); (case side2 => exact HC1_4.out); (case side3 => exact cs_ HR1_5 HB); (case side4 => exact HC1_5.out); rintro e w24 ⟨rfl, hb⟩; replace BK443 := bb_ BK443 hb; replace BK444 := bb_ BK444 hb; replace HB := Aside0.mk (below_step (by repeat (first | (with_reducible first | exact HB.out | apply bA | apply bN | apply bD | apply bS GE443.out | apply bS GE444.out) | exact HB.out)) hb); (try clear hb); (try clear hb2); (try clear hk); (try clear hi)))
      go_meet
      case rel => exact ⟨_, (!t449), (by first | rfl | (simp; done) | (simp [*]; done)), H', ⟨by first | omega | exact Nat.le_refl _⟩, ⟨kb_ BK443⟩, ⟨kb_ BK444⟩, ⟨by repeat (first | (with_reducible first | exact HB.out | apply bA | apply bN | apply bD | apply bS GE443.out | apply bS GE444.out) | exact HB.out)⟩⟩
     ·replace c14 := Bool.eq_false_iff.mpr c14
      subst c14
      have H1 : (waypointlaw32_LsaPurges.j0 k true a0_0 a0_1 a0_2 a0_3 l0_4 l0_5 a1_0 a1_1 a1_2 a1_3 l1_4 l1_5) = some r := by rw [if_neg (show ¬ (false = true) by decide)] at H; exact H
      clear H
      have H := H1
      clear H1
      have H' := Aside0.mk H
      clear H
      have hnb25 := NB443_444.out
      have hnc25 := NB444_443.out
      obtain ⟨hcz26_0, hcz26_1, hcz26_2, hcz26_3, hcz26_4, hcz26_5, hfz26_0, hfz26_1, hfz26_2, hfz26_3, hfz26_4, hfz26_5⟩ := c6_ BK443
      go_wp2_with (first | (go_at_call 11; (with_reducible refine (waypointref32_Few.calls a0_0 a0_1 a0_2 a0_3 _ _ l0_4 _ _ l0_5 true _ ?side1 ?side2 ?side3 ?side4 A9.out).mono ?_); (case side1 => exact cs_ HR0_4 HB); (case side2 => exact HC0_4.out); (case side3 => exact cs_ HR0_5 HB); (case side4 => exact HC0_5.out); rintro e w27 ⟨rfl, hb⟩; replace BK443 := bb_ BK443 hb; replace BK444 := bb_ BK444 hb; replace HB := Aside0.mk (below_step (by repeat (first | (with_reducible first | exact HB.out | apply bA | apply bN | apply bD | apply bS GE443.out | apply bS GE444.out) | exact HB.out)) hb); (try clear hb); (try clear hb2); (try clear hk); (try clear hi); obtain ⟨hcz28_0, hcz28_1, hcz28_2, hcz28_3, hcz28_4, hcz28_5, hfz28_0, hfz28_1, hfz28_2, hfz28_3, hfz28_4, hfz28_5⟩ := c6_ BK444) | (go_at_call 11; (with_reducible refine (waypointref32_Few.calls a1_0 a1_1 a1_2 a1_3 _ _ l1_4 _ _ l1_5 true _ ?side1 ?side2 ?side3 ?side4 A11.out).mono ?_); (case side1 => exact cs_ HR1_4 HB); (case side2 => exact HC1_4.out); (case side3 => exact cs_ HR1_5 HB); (case side4 => exact HC1_5.out); rintro e w29 ⟨rfl, hb⟩; replace BK443 := bb_ BK443 hb; replace BK444 := bb_ BK444 hb; replace HB := Aside0.mk (below_step (by repeat (first | (with_reducible first | exact HB.out | apply bA | apply bN | apply bD | apply bS GE443.out | apply bS GE444.out) | exact HB.out)) hb); (try clear hb); (try clear hb2); (try clear hk); (try clear hi); obtain ⟨hcz30_0, hcz30_1, hcz30_2, hcz30_3, hcz30_4, hcz30_5, hfz30_0, hfz30_1, hfz30_2, hfz30_3, hfz30_4, hfz30_5⟩ := c6_ BK443) | (go_at_call 15; (with_reducible refine (waypointref32_Valid.calls k a0_0 a0_1 a0_2 a0_3 _ _ l0_4 _ _ l0_5 false _ ?side1 ?side2 ?side3 ?side4 A13.out).mono ?_); (case side1 => exact cs_ HR0_4 HB); (case side2 => exact HC0_4.out); (case side3 => exact cs_ HR0_5 HB); (case side4 => exact HC0_5.out); rintro e w31 ⟨rfl, hb⟩; replace BK443 := bb_ BK443 hb; replace BK444 := bb_ BK444 hb; replace HB := Aside0.mk (below_step (by repeat (first | (with_reducible first | exact HB.out | apply bA | apply bN | apply bD | apply bS GE443.out | apply bS GE444.out) | exact HB.out)) hb); (try clear hb); (try clear hb2); (try clear hk); (try clear hi)))
      go_meet
      case rel => exact ⟨_, (true), (by first | rfl | (simp; done) | (simp [*]; done)), H', ⟨by first | omega | exact Nat.le_refl _⟩, ⟨kb_ BK443⟩, ⟨kb_ BK444⟩, ⟨by repeat (first | (with_reducible first | exact HB.out | apply bA | apply bN | apply bD | apply bS GE443.out | apply bS GE444.out) | exact HB.out)⟩⟩
    ·replace c12 := Bool.eq_false_iff.mpr c12
     subst c12
     have H1 : (waypointlaw32_LsaPurges.j0 k true a0_0 a0_1 a0_2 a0_3 l0_4 l0_5 a1_0 a1_1 a1_2 a1_3 l1_4 l1_5) = some r := by rw [if_neg (show ¬ (false = true) by decide)] at H; exact H
     clear H
     have H := H1
     clear H1
     have H' := Aside0.mk H
     clear H
     have hnb32 := NB443_444.out
     have hnc32 := NB444_443.out
     obtain ⟨hcz33_0, hcz33_1, hcz33_2, hcz33_3, hcz33_4, hcz33_5, hfz33_0, hfz33_1, hfz33_2, hfz33_3, hfz33_4, hfz33_5⟩ := c6_ BK443
     go_wp2_with (first | (go_at_call 11; (with_reducible refine (waypointref32_Few.calls a0_0 a0_1 a0_2 a0_3 _ _ l0_4 _ _ l0_5 true _ ?side1 ?side2 ?side3 ?side4 A9.out).mono ?_); (case side1 => exact cs_ HR0_4 HB); (case side2 => exact HC0_4.out); (case side3 => exact cs_ HR0_5 HB); (case side4 => exact HC0_5.out); rintro e w34 ⟨rfl, hb⟩; replace BK443 := bb_ BK443 hb; replace BK444 := bb_ BK444 hb; replace HB := Aside0.mk (below_step (by repeat (first | (with_reducible first | exact HB.out | apply bA | apply bN | apply bD | apply bS GE443.out | apply bS GE444.out) | exact HB.out)) hb); (try clear hb); (try clear hb2); (try clear hk); (try clear hi); obtain ⟨hcz35_0, hcz35_1, hcz35_2, hcz35_3, hcz35_4, hcz35_5, hfz35_0, hfz35_1, hfz35_2, hfz35_3, hfz35_4, hfz35_5⟩ := c6_ BK444) | (go_at_call 11; (with_reducible refine (waypointref32_Few.calls a1_0 a1_1 a1_2 a1_3 _ _ l1_4 _ _ l1_5 false _ ?side1 ?side2 ?side3 ?side4 A11.out).mono ?_); (case side1 => exact cs_ HR1_4 HB); (case side2 => exact HC1_4.out); (case side3 => exact cs_ HR1_5 HB); (case side4 => exact HC1_5.out); rintro e w36 ⟨rfl, hb⟩; replace BK443 := bb_ BK443 hb; replace BK444 := bb_ BK444 hb; replace HB := Aside0.mk (below_step (by repeat (first | (with_reducible first | exact HB.out | apply bA | apply bN | apply bD | apply bS GE443.out | apply bS GE444.out) | exact HB.out)) hb); (try clear hb); (try clear hb2); (try clear hk); (try clear hi)))
     go_meet
     case rel => exact ⟨_, (true), (by first | rfl | (simp; done) | (simp [*]; done)), H', ⟨by first | omega | exact Nat.le_refl _⟩, ⟨kb_ BK443⟩, ⟨kb_ BK444⟩, ⟨by repeat (first | (with_reducible first | exact HB.out | apply bA | apply bN | apply bD | apply bS GE443.out | apply bS GE444.out) | exact HB.out)⟩⟩
   ·replace c10 := Bool.eq_false_iff.mpr c10
    subst c10
    have H1 : (waypointlaw32_LsaPurges.j0 k true a0_0 a0_1 a0_2 a0_3 l0_4 l0_5 a1_0 a1_1 a1_2 a1_3 l1_4 l1_5) = some r := by rw [if_neg (show ¬ (false = true) by decide)] at H; exact H
    clear H
    have H := H1
    clear H1
    have H' := Aside0.mk H
    clear H
    have hnb37 := NB443_444.out
    have hnc37 := NB444_443.out
    obtain ⟨hcz38_0, hcz38_1, hcz38_2, hcz38_3, hcz38_4, hcz38_5, hfz38_0, hfz38_1, hfz38_2, hfz38_3, hfz38_4, hfz38_5⟩ := c6_ BK443
    go_wp2_with (first | (go_at_call 11; (with_reducible refine (waypointref32_Few.calls a0_0 a0_1 a0_2 a0_3 _ _ l0_4 _ _ l0_5 false _ ?side1 ?side2 ?side3 ?side4 A9.out).mono ?_); (case side1 => exact cs_ HR0_4 HB); (case side2 => exact HC0_4.out); (case side3 => exact cs_ HR0_5 HB); (case side4 => exact HC0_5.out); rintro e w39 ⟨rfl, hb⟩; replace BK443 := bb_ BK443 hb; replace BK444 := bb_ BK444 hb; replace HB := Aside0.mk (below_step (by repeat (first | (with_reducible first | exact HB.out | apply bA | apply bN | apply bD | apply bS GE443.out | apply bS GE444.out) | exact HB.out)) hb); (try clear hb); (try clear hb2); (try clear hk); (try clear hi)))
    go_meet
    case rel => exact ⟨_, (true), (by first | rfl | (simp; done) | (simp [*]; done)), H', ⟨by first | omega | exact Nat.le_refl _⟩, ⟨kb_ BK443⟩, ⟨kb_ BK444⟩, ⟨by repeat (first | (with_reducible first | exact HB.out | apply bA | apply bN | apply bD | apply bS GE443.out | apply bS GE444.out) | exact HB.out)⟩⟩
  case rest =>
   clear HC5
   (try clear c4)
   obtain ⟨kq, x28_4, rfl, HA, HJ4, BK443, BK444, HB⟩ := hcut
   cases kq with
   | zero => exact absurd HA.out (by simp [waypointlaw32_LsaPurges.j0])
   | succ kj4 =>
    have H := HA.out
    clear HA
    simp only [waypointlaw32_LsaPurges.j0] at H
    by_cases c40 : x28_4 = true
    ·subst c40
     have H1 : (some true) = some r := by rw [if_pos rfl] at H; exact H
     clear H
     have H := H1
     clear H1
     obtain rfl := Option.some.inj H
     go_wp2
     repeat (go_quiet (fail); try go_wp2)
     go_ret
     exact ⟨by first | rfl | (simp [errW_none, errW_some] <;> rfl) | (simp [*, errW_none, errW_some] <;> rfl), by repeat (first | (with_reducible first | exact HB.out | apply bA | apply bN | apply bD | apply bS GE443.out | apply bS GE444.out) | exact HB.out)⟩
    ·replace c40 := Bool.eq_false_iff.mpr c40
     subst c40
     have H1 : (waypointlaw32_LsaPurges.l0 kj4 0 a0_0 a0_1 a0_2 a0_3 l0_4 l0_5 a0_0 a1_1 a1_2 a1_3 l1_4 l1_5) = some r := by rw [if_neg (show ¬ (false = true) by decide)] at H; exact H
     clear H
     have H := H1
     clear H1
     have H' := Aside0.mk H
     clear H
     have hnb41 := NB443_444.out
     have hnc41 := NB444_443.out
     obtain ⟨hcz42_0, hcz42_1, hcz42_2, hcz42_3, hcz42_4, hcz42_5, hfz42_0, hfz42_1, hfz42_2, hfz42_3, hfz42_4, hfz42_5⟩ := c6_ BK443
     obtain ⟨hcz43_0, hcz43_1, hcz43_2, hcz43_3, hcz43_4, hcz43_5, hfz43_0, hfz43_1, hfz43_2, hfz43_3, hfz43_4, hfz43_5⟩ := c6_ BK444
     go_wp2
     repeat (go_quiet (fail); try go_wp2)
     go_loopg [5] kj4 (fun kq v5 w' => ∃ (x5_2 : Int), v5 = .int .i64 x5_2 ∧ Aside0 (waypointlaw32_LsaPurges.l0 kq x5_2 a0_0 a0_1 a0_2 a0_3 l0_4 l0_5 a0_0 a1_1 a1_2 a1_3 l1_4 l1_5 = some r) ∧ Aside0 (kq ≤ kj4) ∧ Aside0 (w'.heap[gb443]? = some (.cells #[.int .i64 a0_0, .int .i64 a0_1, .int .i64 a0_2, .bool a0_3, (.slice A0_4 l0_4.length c0_4), (.slice A0_5 l0_5.length c0_5)] 25 (0, 0))) ∧ Aside0 (w'.heap[gb444]? = some (.cells #[.int .i64 a0_0, .int .i64 a1_1, .int .i64 a1_2, .bool a1_3, (.slice A1_4 l1_4.length c1_4), (.slice A1_5 l1_5.length c1_5)] 25 (0, 0))) ∧ Aside0 (Below w.heap.size w w'))
     case atStart => exact ⟨(0), (by first | rfl | (simp; done) | (simp [*]; done)), H', ⟨Nat.le_refl _⟩, ⟨by (with_reducible repeat (first | refine blk_drewN ?_ _ | refine blk_drew ?_ | refine blk_alloc ?_ _)); refine blk_far ?_ NB443_444.out _; (with_reducible repeat (first | refine blk_drewN ?_ _ | refine blk_drew ?_ | refine blk_alloc ?_ _)); exact BK443.out⟩, ⟨by (with_reducible repeat (first | refine blk_drewN ?_ _ | refine blk_drew ?_ | refine blk_alloc ?_ _)); refine blk_put (cs := #[.int .i64 a1_0, .int .i64 a1_1, .int .i64 a1_2, .bool a1_3, .slice A1_4 l1_4.length c1_4, .slice A1_5 l1_5.length c1_5]) ?_ 0 _ rfl; (with_reducible repeat (first | refine blk_drewN ?_ _ | refine blk_drew ?_ | refine blk_alloc ?_ _)); exact BK444.out⟩, ⟨by repeat (first | (with_reducible first | exact HB.out | apply bA | apply bN | apply bD | apply bS GE443.out | apply bS GE444.out) | exact HB.out)⟩⟩
     case round =>
      clear H'
      (try clear c4); (try clear c40); (try clear hcz42_0); (try clear hcz42_1); (try clear hcz42_2); (try clear hcz42_3); (try clear hcz42_4); (try clear hcz42_5); (try clear hcz43_0); (try clear hcz43_1); (try clear hcz43_2); (try clear hcz43_3); (try clear hcz43_4); (try clear hcz43_5); (try clear hfz42_0); (try clear hfz42_1); (try clear hfz42_2); (try clear hfz42_3); (try clear hfz42_4); (try clear hfz42_5); (try clear hfz43_0); (try clear hfz43_1); (try clear hfz43_2); (try clear hfz43_3); (try clear hfz43_4); (try clear hfz43_5)
      obtain ⟨x5_2, rfl, HA, HK2, BK443, BK444, HB⟩ := hrel
      cases gk with
      | zero => exact absurd HA.out (by simp [waypointlaw32_LsaPurges.l0])
      | succ k2 =>
       have H := HA.out
       clear HA
       simp only [waypointlaw32_LsaPurges.l0] at H
       by_cases c44 : x5_2 < (l1_4.length : Int)
       ·rw [if_pos c44] at H
        have c44b0 : decide (x5_2 < (l1_4.length : Int)) = true := decide_eq_true c44
        clear c44
        by_cases c45 : 0 ≤ x5_2
        ·rw [if_pos c45] at H
         have c45b0 : decide (0 ≤ x5_2) = true := decide_eq_true c45
         clear c45
         by_cases c46 : ((rd_T43 l1_4 x5_2).f0) = a0_0
         ·rw [if_pos c46] at H
          have c46b0 : (((rd_T43 l1_4 x5_2).f0) == a0_0) = true := beq_iff_eq.mpr c46
          have c46b1 : (((rd_T43 l1_4 x5_2).f0) != a0_0) = false := bne_eq_false_iff_eq.mpr c46
          clear c46
          obtain rfl := Option.some.inj H
          have hnb47 := NB444_443.out
          have hnc47 := NB443_444.out
          obtain ⟨hcz48_0, hcz48_1, hcz48_2, hcz48_3, hcz48_4, hcz48_5, hfz48_0, hfz48_1, hfz48_2, hfz48_3, hfz48_4, hfz48_5⟩ := c6_ BK444
          have p450 : 0 ≤ (x5_2 : Int) := of_decide_eq_true (by first | (with_reducible assumption) | assumption)
          have q450 : x5_2 < (l1_4.length : Int) := of_decide_eq_true (by first | (with_reducible assumption) | assumption)
          obtain ⟨ad450, e450, hx450_0, hx450_1, hx450_2⟩ := at_T43 HR1_4.out x5_2 p450 q450
          cases e450
          replace hx450_0 := (HB.out.cell (World.block_lt_of_cell? w _ hx450_0)).trans hx450_0
          replace hx450_1 := (HB.out.cell (World.block_lt_of_cell? w _ hx450_1)).trans hx450_1
          replace hx450_2 := (HB.out.cell (World.block_lt_of_cell? w _ hx450_2)).trans hx450_2
          replace p450 := eq_true p450
          replace q450 := eq_true q450
          go_wp2
          repeat (go_quiet (fail); try go_wp2)
          go_ret
          exact ⟨by first | rfl | (simp [errW_none, errW_some] <;> rfl) | (simp [*, errW_none, errW_some] <;> rfl), by repeat (first | (with_reducible first | exact HB.out | apply bA | apply bN | apply bD | apply bS GE443.out | apply bS GE444.out) | exact HB.out)⟩
         ·rw [if_neg c46] at H
          have c46b0 : (((rd_T43 l1_4 x5_2).f0) == a0_0) = false := beq_eq_false_iff_ne.mpr c46
          have c46b1 : (((rd_T43 l1_4 x5_2).f0) != a0_0) = true := bne_iff_ne.mpr c46
          have H' := Aside0.mk H
          clear H
          have hnb49 := NB444_443.out
          have hnc49 := NB443_444.out
          obtain ⟨hcz50_0, hcz50_1, hcz50_2, hcz50_3, hcz50_4, hcz50_5, hfz50_0, hfz50_1, hfz50_2, hfz50_3, hfz50_4, hfz50_5⟩ := c6_ BK444
          have p450 : 0 ≤ (x5_2 : Int) := of_decide_eq_true (by first | (with_reducible assumption) | assumption)
          have q450 : x5_2 < (l1_4.length : Int) := of_decide_eq_true (by first | (with_reducible assumption) | assumption)
          obtain ⟨ad450, e450, hx450_0, hx450_1, hx450_2⟩ := at_T43 HR1_4.out x5_2 p450 q450
          cases e450
          replace hx450_0 := (HB.out.cell (World.block_lt_of_cell? w _ hx450_0)).trans hx450_0
          replace hx450_1 := (HB.out.cell (World.block_lt_of_cell? w _ hx450_1)).trans hx450_1
          replace hx450_2 := (HB.out.cell (World.block_lt_of_cell? w _ hx450_2)).trans hx450_2
          replace p450 := eq_true p450
          replace q450 := eq_true q450
          go_wp2
          repeat (go_quiet (fail); try go_wp2)
          go_roundg k2
          case measure => have := HJ4.out; have := HK2.out; omega
          case rel => exact ⟨(wrap64 (x5_2 + 1)), (by first | rfl | (simp; done) | (simp [*]; done)), H', ⟨by have := HJ4.out; have := HK2.out; omega⟩, ⟨kb_ BK443⟩, ⟨kb_ BK444⟩, ⟨by repeat (first | (with_reducible first | exact HB.out | apply bA | apply bN | apply bD | apply bS GE443.out | apply bS GE444.out) | exact HB.out)⟩⟩
        ·rw [if_neg c45] at H
         exact absurd H (by simp)
       ·rw [if_neg c44] at H
        have c44b0 : decide (x5_2 < (l1_4.length : Int)) = false := decide_eq_false c44
        clear c44
        replace H := Option.bind_eq_some_iff.mp H
        obtain ⟨⟨t451, t452, t453, t454, t455, t458, t461⟩, A510, H⟩ := H
        replace H : (if t461 = 0 then ((lsa_Valid.f k2 t451 t452 t453 t454 t455 t458).bind fun t463 => (waypointlaw32_LsaPurges.j2 k2 (!t463) a0_0 a0_1 a0_2 a0_3 l0_4 l0_5 a0_0 a1_1 a1_2 a1_3 l1_4 l1_5 t451 t452 t453 t454 t455 t458)) else (waypointlaw32_LsaPurges.j2 k2 true a0_0 a0_1 a0_2 a0_3 l0_4 l0_5 a0_0 a1_1 a1_2 a1_3 l1_4 l1_5 t451 t452 t453 t454 t455 t458)) = some r := H
        have A51 := Aside0.mk A510
        clear A510
        have HC52 := Aside0.mk H
        clear H
        have hnb53 := NB444_443.out
        have hnc53 := NB443_444.out
        obtain ⟨hcz54_0, hcz54_1, hcz54_2, hcz54_3, hcz54_4, hcz54_5, hfz54_0, hfz54_1, hfz54_2, hfz54_3, hfz54_4, hfz54_5⟩ := c6_ BK444
        obtain ⟨hcz55_0, hcz55_1, hcz55_2, hcz55_3, hcz55_4, hcz55_5, hfz55_0, hfz55_1, hfz55_2, hfz55_3, hfz55_4, hfz55_5⟩ := c6_ BK443
        go_upto_region 12 with (first | (go_at_call 13; (with_reducible refine (lsa_Purge.calls k2 a0_0 a0_1 a0_2 a0_3 _ _ l0_4 _ _ l0_5 t451 t452 t453 t454 t455 t458 t461 _ ?side1 ?side2 ?side3 ?side4 A51.out).mono ?_); (case side1 => exact cs_ HR0_4 HB); (case side2 => exact HC0_4.out); (case side3 => exact cs_ HR0_5 HB); (case side4 => exact HC0_5.out); rintro e w56 ⟨v456, v459, rfl, ho0, ho1, hb⟩; have HO457 := Aside0.mk (Kd.R_lower ho0 (below_size (by repeat (first | (with_reducible first | exact HB.out | apply bA | apply bN | apply bD | apply bS GE443.out | apply bS GE444.out) | exact HB.out)))); have HO460 := Aside0.mk (Kd.R_lower ho1 (below_size (by repeat (first | (with_reducible first | exact HB.out | apply bA | apply bN | apply bD | apply bS GE443.out | apply bS GE444.out) | exact HB.out)))); replace BK443 := bb_ BK443 hb; replace BK444 := bb_ BK444 hb; replace HB := Aside0.mk (below_step (by repeat (first | (with_reducible first | exact HB.out | apply bA | apply bN | apply bD | apply bS GE443.out | apply bS GE444.out) | exact HB.out)) hb); (try clear hb); (try clear hb2); (try clear hk); (try clear hi); (try clear ho0); (try clear ho1)) | ((with_reducible refine gate_dst (N := 6) rfl ?_); refine bx_ 6 #[.int .i64 0, .int .i64 0, .int .i64 0, .bool false, .slice none 0 0, .slice none 0 0] 25 rfl rfl ?hr ?_; (case hr => go_simp; try rfl); intro gb462 hg w57 hbox hb; have BK462 := Aside0.mk (hbox); have GW462 := Aside0.mk ((by rw [hg]; exact (below_size (by repeat (first | (with_reducible first | exact HB.out | apply bA | apply bN | apply bD | apply bS GE443.out | apply bS GE444.out) | exact HB.out))) : w.heap.size ≤ gb462)); have GE462 := Aside0.mk ((by rw [hg]; exact (below_size (by repeat (first | (with_reducible first | exact HB.out | apply bA | apply bN | apply bD | apply bS GE443.out | apply bS GE444.out) | exact HB.out))) : w.heap.size ≤ gb462)); have NB443_462 := nl_ BK443 hg; have NB462_443 := ng_ BK443 hg; have NB444_462 := nl_ BK444 hg; have NB462_444 := ng_ BK444 hg; replace HO457 := Aside0.mk (Kd.R_below (by (with_reducible repeat (first | apply Kd.R_alloc | apply Kd.R_drewN | apply Kd.R_drew)); exact HO457.out) hb); replace HO460 := Aside0.mk (Kd.R_below (by (with_reducible repeat (first | apply Kd.R_alloc | apply Kd.R_drewN | apply Kd.R_drew)); exact HO460.out) hb); replace BK443 := bb_ BK443 hb; replace BK444 := bb_ BK444 hb; replace HB := Aside0.mk (below_step (by repeat (first | (with_reducible first | exact HB.out | apply bA | apply bN | apply bD | apply bS GE443.out | apply bS GE444.out) | exact HB.out)) hb); clear hb hbox hg; have hnb58 := NB462_443.out; have hnc58 := NB443_462.out; have hnb59 := NB462_444.out; have hnc59 := NB444_462.out; obtain ⟨hcz60_0, hcz60_1, hcz60_2, hcz60_3, hcz60_4, hcz60_5, hfz60_0, hfz60_1, hfz60_2, hfz60_3, hfz60_4, hfz60_5⟩ := c6_ BK462; obtain ⟨Ao61, co61, eo61⟩ := Kd.R_slice HO457.out; subst eo61; obtain ⟨Ao62, co62, eo62⟩ := Kd.R_slice HO460.out; subst eo62))
        (try simp only [Act.put, List.setIfInBounds_toArray, List.set_cons_zero, List.set_cons_succ])
        go_cut [59] (fun v59 wc => ∃ (kq : Nat) (x59_51 : Bool), v59 = .bool x59_51 ∧ Aside0 (waypointlaw32_LsaPurges.j2 kq x59_51 a0_0 a0_1 a0_2 a0_3 l0_4 l0_5 a0_0 a1_1 a1_2 a1_3 l1_4 l1_5 t451 t452 t453 t454 t455 t458 = some r) ∧ Aside0 (kq ≤ k2) ∧ Aside0 (Kd.R k43 43 wc w.heap.size (fun _ => True) (.slice Ao61 t455.length co61) t455) ∧ Aside0 (Kd.R k56 56 wc w.heap.size (fun _ => True) (.slice Ao62 t458.length co62) t458) ∧ Aside0 (wc.heap[gb443]? = some (.cells #[.int .i64 a0_0, .int .i64 a0_1, .int .i64 a0_2, .bool a0_3, (.slice A0_4 l0_4.length c0_4), (.slice A0_5 l0_5.length c0_5)] 25 (0, 0))) ∧ Aside0 (wc.heap[gb444]? = some (.cells #[.int .i64 a0_0, .int .i64 a1_1, .int .i64 a1_2, .bool a1_3, (.slice A1_4 l1_4.length c1_4), (.slice A1_5 l1_5.length c1_5)] 25 (0, 0))) ∧ Aside0 (wc.heap[gb462]? = some (.cells #[.int .i64 t451, .int .i64 t452, .int .i64 t453, .bool t454, (.slice Ao61 t455.length co61), (.slice Ao62 t458.length co62)] 25 (0, 0))) ∧ Aside0 (Below w.heap.size w wc))
        case first =>
         have H := HC52.out
         clear HC52
         by_cases c63 : t461 = 0
         ·rw [if_pos c63] at H
          have c63b0 : (t461 == 0) = true := beq_iff_eq.mpr c63
          have c63b1 : (t461 != 0) = false := bne_eq_false_iff_eq.mpr c63
          clear c63
          (first | rw [c63b0] | (simp only [i64_w, i32_w]; rw [c63b0]) | skip)
          replace H := Option.bind_eq_some_iff.mp H
          obtain ⟨t463, A640, H⟩ := H
          replace H : (waypointlaw32_LsaPurges.j2 k2 (!t463) a0_0 a0_1 a0_2 a0_3 l0_4 l0_5 a0_0 a1_1 a1_2 a1_3 l1_4 l1_5 t451 t452 t453 t454 t455 t458) = some r := H
          have A64 := Aside0.mk A640
          clear A640
          have H' := Aside0.mk H
          clear H
          have hnb65 := NB462_443.out
          have hnc65 := NB443_462.out
          have hnb66 := NB462_444.out
          have hnc66 := NB444_462.out
          obtain ⟨hcz67_0, hcz67_1, hcz67_2, hcz67_3, hcz67_4, hcz67_5, hfz67_0, hfz67_1, hfz67_2, hfz67_3, hfz67_4, hfz67_5⟩ := c6_ BK462
          go_wp2_with (first | (go_at_call 14; (with_reducible refine (lsa_Valid.calls k2 t451 t452 t453 t454 _ _ t455 _ _ t458 t463 _ ?side1 ?side2 ?side3 ?side4 A64.out).mono ?_); (case side1 => refine (Kd.R_reads' (e := 43) (base := w.heap.size) (ok := fun k_ => True) (n := t455.length) (c := co61) ?_).2.2; exact (by (with_reducible repeat (first | apply Kd.R_alloc | apply Kd.R_drewN | apply Kd.R_drew)); exact (Kd.R_mono (Kd.R_far (p := ⟨gb462, 5, none⟩) (Kd.R_far (p := ⟨gb462, 4, none⟩) (Kd.R_far (p := ⟨gb462, 3, none⟩) (Kd.R_far (p := ⟨gb462, 2, none⟩) (Kd.R_far (p := ⟨gb462, 1, none⟩) (Kd.R_far (p := ⟨gb462, 0, none⟩) (Kd.R_types HO457.out BK462.out (by decide)) (fun _ hk => hk.2) (.int .i64 t451)) (fun _ hk => hk.2) (.int .i64 t452)) (fun _ hk => hk.2) (.int .i64 t453)) (fun _ hk => hk.2) (.bool t454)) (fun _ hk => hk.2) (.slice Ao61 t455.length co61)) (fun _ hk => hk.2) (.slice Ao62 t458.length co62)) (fun _ h_ => h_.1)))); (case side2 => exact (Kd.R_reads' HO457.out).2.1); (case side3 => refine (Kd.R_reads' (e := 56) (base := w.heap.size) (ok := fun k_ => True) (n := t458.length) (c := co62) ?_).2.2; exact (by (with_reducible repeat (first | apply Kd.R_alloc | apply Kd.R_drewN | apply Kd.R_drew)); exact (Kd.R_mono (Kd.R_far (p := ⟨gb462, 5, none⟩) (Kd.R_far (p := ⟨gb462, 4, none⟩) (Kd.R_far (p := ⟨gb462, 3, none⟩) (Kd.R_far (p := ⟨gb462, 2, none⟩) (Kd.R_far (p := ⟨gb462, 1, none⟩) (Kd.R_far (p := ⟨gb462, 0, none⟩) (Kd.R_types HO460.out BK462.out (by decide)) (fun _ hk => hk.2) (.int .i64 t451)) (fun _ hk => hk.2) (.int .i64 t452)) (fun _ hk => hk.2) (.int .i64 t453)) (fun _ hk => hk.2) (.bool t454)) (fun _ hk => hk.2) (.slice Ao61 t455.length co61)) (fun _ hk => hk.2) (.slice Ao62 t458.length co62)) (fun _ h_ => h_.1)))); (case side4 => exact (Kd.R_reads' HO460.out).2.1); rintro e w68 ⟨rfl, hb⟩; replace HO457 := Aside0.mk (Kd.R_below (by (with_reducible repeat (first | apply Kd.R_alloc | apply Kd.R_drewN | apply Kd.R_drew)); exact (Kd.R_mono (Kd.R_far (p := ⟨gb462, 5, none⟩) (Kd.R_far (p := ⟨gb462, 4, none⟩) (Kd.R_far (p := ⟨gb462, 3, none⟩) (Kd.R_far (p := ⟨gb462, 2, none⟩) (Kd.R_far (p := ⟨gb462, 1, none⟩) (Kd.R_far (p := ⟨gb462, 0, none⟩) (Kd.R_types HO457.out BK462.out (by decide)) (fun _ hk => hk.2) (.int .i64 t451)) (fun _ hk => hk.2) (.int .i64 t452)) (fun _ hk => hk.2) (.int .i64 t453)) (fun _ hk => hk.2) (.bool t454)) (fun _ hk => hk.2) (.slice Ao61 t455.length co61)) (fun _ hk => hk.2) (.slice Ao62 t458.length co62)) (fun _ h_ => h_.1))) hb); replace HO460 := Aside0.mk (Kd.R_below (by (with_reducible repeat (first | apply Kd.R_alloc | apply Kd.R_drewN | apply Kd.R_drew)); exact (Kd.R_mono (Kd.R_far (p := ⟨gb462, 5, none⟩) (Kd.R_far (p := ⟨gb462, 4, none⟩) (Kd.R_far (p := ⟨gb462, 3, none⟩) (Kd.R_far (p := ⟨gb462, 2, none⟩) (Kd.R_far (p := ⟨gb462, 1, none⟩) (Kd.R_far (p := ⟨gb462, 0, none⟩) (Kd.R_types HO460.out BK462.out (by decide)) (fun _ hk => hk.2) (.int .i64 t451)) (fun _ hk => hk.2) (.int .i64 t452)) (fun _ hk => hk.2) (.int .i64 t453)) (fun _ hk => hk.2) (.bool t454)) (fun _ hk => hk.2) (.slice Ao61 t455.length co61)) (fun _ hk => hk.2) (.slice Ao62 t458.length co62)) (fun _ h_ => h_.1))) hb); replace BK443 := Aside0.mk (blk_below (g := gb443) (o := .cells #[.int .i64 a0_0, .int .i64 a0_1, .int .i64 a0_2, .bool a0_3, .slice A0_4 l0_4.length c0_4, .slice A0_5 l0_5.length c0_5] 25 (0, 0)) (by (with_reducible repeat (first | refine blk_drewN ?_ _ | refine blk_drew ?_ | refine blk_alloc ?_ _)); refine blk_far ?_ NB443_462.out _; (with_reducible repeat (first | refine blk_drewN ?_ _ | refine blk_drew ?_ | refine blk_alloc ?_ _)); refine blk_far ?_ NB443_462.out _; (with_reducible repeat (first | refine blk_drewN ?_ _ | refine blk_drew ?_ | refine blk_alloc ?_ _)); refine blk_far ?_ NB443_462.out _; (with_reducible repeat (first | refine blk_drewN ?_ _ | refine blk_drew ?_ | refine blk_alloc ?_ _)); refine blk_far ?_ NB443_462.out _; (with_reducible repeat (first | refine blk_drewN ?_ _ | refine blk_drew ?_ | refine blk_alloc ?_ _)); refine blk_far ?_ NB443_462.out _; (with_reducible repeat (first | refine blk_drewN ?_ _ | refine blk_drew ?_ | refine blk_alloc ?_ _)); refine blk_far ?_ NB443_462.out _; (with_reducible repeat (first | refine blk_drewN ?_ _ | refine blk_drew ?_ | refine blk_alloc ?_ _)); exact BK443.out) hb); replace BK444 := Aside0.mk (blk_below (g := gb444) (o := .cells #[.int .i64 a0_0, .int .i64 a1_1, .int .i64 a1_2, .bool a1_3, .slice A1_4 l1_4.length c1_4, .slice A1_5 l1_5.length c1_5] 25 (0, 0)) (by (with_reducible repeat (first | refine blk_drewN ?_ _ | refine blk_drew ?_ | refine blk_alloc ?_ _)); refine blk_far ?_ NB444_462.out _; (with_reducible repeat (first | refine blk_drewN ?_ _ | refine blk_drew ?_ | refine blk_alloc ?_ _)); refine blk_far ?_ NB444_462.out _; (with_reducible repeat (first | refine blk_drewN ?_ _ | refine blk_drew ?_ | refine blk_alloc ?_ _)); refine blk_far ?_ NB444_462.out _; (with_reducible repeat (first | refine blk_drewN ?_ _ | refine blk_drew ?_ | refine blk_alloc ?_ _)); refine blk_far ?_ NB444_462.out _; (with_reducible repeat (first | refine blk_drewN ?_ _ | refine blk_drew ?_ | refine blk_alloc ?_ _)); refine blk_far ?_ NB444_462.out _; (with_reducible repeat (first | refine blk_drewN ?_ _ | refine blk_drew ?_ | refine blk_alloc ?_ _)); refine blk_far ?_ NB444_462.out _; (with_reducible repeat (first | refine blk_drewN ?_ _ | refine blk_drew ?_ | refine blk_alloc ?_ _)); exact BK444.out) hb); replace BK462 := Aside0.mk (blk_below (g := gb462) (o := .cells #[.int .i64 t451, .int .i64 t452, .int .i64 t453, .bool t454, .slice Ao61 t455.length co61, .slice Ao62 t458.length co62] 25 (0, 0)) (by (with_reducible repeat (first | refine blk_drewN ?_ _ | refine blk_drew ?_ | refine blk_alloc ?_ _)); refine blk_put (cs := #[.int .i64 t451, .int .i64 t452, .int .i64 t453, .bool t454, .slice Ao61 t455.length co61, .slice none 0 0]) ?_ 5 _ rfl; (with_reducible repeat (first | refine blk_drewN ?_ _ | refine blk_drew ?_ | refine blk_alloc ?_ _)); refine blk_put (cs := #[.int .i64 t451, .int .i64 t452, .int .i64 t453, .bool t454, .slice none 0 0, .slice none 0 0]) ?_ 4 _ rfl; (with_reducible repeat (first | refine blk_drewN ?_ _ | refine blk_drew ?_ | refine blk_alloc ?_ _)); refine blk_put (cs := #[.int .i64 t451, .int .i64 t452, .int .i64 t453, .bool false, .slice none 0 0, .slice none 0 0]) ?_ 3 _ rfl; (with_reducible repeat (first | refine blk_drewN ?_ _ | refine blk_drew ?_ | refine blk_alloc ?_ _)); refine blk_put (cs := #[.int .i64 t451, .int .i64 t452, .int .i64 0, .bool false, .slice none 0 0, .slice none 0 0]) ?_ 2 _ rfl; (with_reducible repeat (first | refine blk_drewN ?_ _ | refine blk_drew ?_ | refine blk_alloc ?_ _)); refine blk_put (cs := #[.int .i64 t451, .int .i64 0, .int .i64 0, .bool false, .slice none 0 0, .slice none 0 0]) ?_ 1 _ rfl; (with_reducible repeat (first | refine blk_drewN ?_ _ | refine blk_drew ?_ | refine blk_alloc ?_ _)); refine blk_put (cs := #[.int .i64 0, .int .i64 0, .int .i64 0, .bool false, .slice none 0 0, .slice none 0 0]) ?_ 0 _ rfl; (with_reducible repeat (first | refine blk_drewN ?_ _ | refine blk_drew ?_ | refine blk_alloc ?_ _)); exact BK462.out) hb); replace HB := Aside0.mk (below_step (by repeat (first | (with_reducible first | exact HB.out | apply bA | apply bN | apply bD | apply bS GE443.out | apply bS GE444.out | apply bS GE462.out) | exact HB.out)) hb); (try clear hb); (try clear hb2); (try clear hk); (try clear hi)))
          go_meet
          case rel => exact ⟨_, (!t463), (by first | rfl | (simp; done) | (simp [*]; done)), H', ⟨by have := HJ4.out; have := HK2.out; first | omega | exact Nat.le_refl _⟩, ⟨by (with_reducible repeat (first | apply Kd.R_alloc | apply Kd.R_drewN | apply Kd.R_drew)); exact HO457.out⟩, ⟨by (with_reducible repeat (first | apply Kd.R_alloc | apply Kd.R_drewN | apply Kd.R_drew)); exact HO460.out⟩, ⟨kb_ BK443⟩, ⟨kb_ BK444⟩, ⟨kb_ BK462⟩, ⟨by repeat (first | (with_reducible first | exact HB.out | apply bA | apply bN | apply bD | apply bS GE443.out | apply bS GE444.out | apply bS GE462.out) | exact HB.out)⟩⟩
         ·rw [if_neg c63] at H
          have c63b0 : (t461 == 0) = false := beq_eq_false_iff_ne.mpr c63
          have c63b1 : (t461 != 0) = true := bne_iff_ne.mpr c63
          (first | rw [c63b0] | (simp only [i64_w, i32_w]; rw [c63b0]) | skip)
          have H' := Aside0.mk H
          clear H
          go_wp2
          repeat (go_quiet (fail); try go_wp2)
          go_meet
          case rel => exact ⟨_, (true), (by first | rfl | (simp; done) | (simp [*]; done)), H', ⟨by have := HJ4.out; have := HK2.out; first | omega | exact Nat.le_refl _⟩, ⟨by (with_reducible repeat (first | apply Kd.R_alloc | apply Kd.R_drewN | apply Kd.R_drew)); exact Kd.R_mono (Kd.R_far (p := ⟨gb462, 5, none⟩) (Kd.R_far (p := ⟨gb462, 4, none⟩) (Kd.R_far (p := ⟨gb462, 3, none⟩) (Kd.R_far (p := ⟨gb462, 2, none⟩) (Kd.R_far (p := ⟨gb462, 1, none⟩) (Kd.R_far (p := ⟨gb462, 0, none⟩) (Kd.R_types HO457.out BK462.out (by decide)) (fun _ hk => hk.2) (.int .i64 t451)) (fun _ hk => hk.2) (.int .i64 t452)) (fun _ hk => hk.2) (.int .i64 t453)) (fun _ hk => hk.2) (.bool t454)) (fun _ hk => hk.2) (.slice Ao61 t455.length co61)) (fun _ hk => hk.2) (.slice Ao62 t458.length co62)) (fun _ hk => trivial)⟩, ⟨by (with_reducible repeat (first | apply Kd.R_alloc | apply Kd.R_drewN | apply Kd.R_drew)); exact Kd.R_mono (Kd.R_far (p := ⟨gb462, 5, none⟩) (Kd.R_far (p := ⟨gb462, 4, none⟩) (Kd.R_far (p := ⟨gb462, 3, none⟩) (Kd.R_far (p := ⟨gb462, 2, none⟩) (Kd.R_far (p := ⟨gb462, 1, none⟩) (Kd.R_far (p := ⟨gb462, 0, none⟩) (Kd.R_types HO460.out BK462.out (by decide)) (fun _ hk => hk.2) (.int .i64 t451)) (fun _ hk => hk.2) (.int .i64 t452)) (fun _ hk => hk.2) (.int .i64 t453)) (fun _ hk => hk.2) (.bool t454)) (fun _ hk => hk.2) (.slice Ao61 t455.length co61)) (fun _ hk => hk.2) (.slice Ao62 t458.length co62)) (fun _ hk => trivial)⟩, ⟨by (with_reducible repeat (first | refine blk_drewN ?_ _ | refine blk_drew ?_ | refine blk_alloc ?_ _)); refine blk_far ?_ NB443_462.out _; (with_reducible repeat (first | refine blk_drewN ?_ _ | refine blk_drew ?_ | refine blk_alloc ?_ _)); refine blk_far ?_ NB443_462.out _; (with_reducible repeat (first | refine blk_drewN ?_ _ | refine blk_drew ?_ | refine blk_alloc ?_ _)); refine blk_far ?_ NB443_462.out _; (with_reducible repeat (first | refine blk_drewN ?_ _ | refine blk_drew ?_ | refine blk_alloc ?_ _)); refine blk_far ?_ NB443_462.out _; (with_reducible repeat (first | refine blk_drewN ?_ _ | refine blk_drew ?_ | refine blk_alloc ?_ _)); refine blk_far ?_ NB443_462.out _; (with_reducible repeat (first | refine blk_drewN ?_ _ | refine blk_drew ?_ | refine blk_alloc ?_ _)); refine blk_far ?_ NB443_462.out _; (with_reducible repeat (first | refine blk_drewN ?_ _ | refine blk_drew ?_ | refine blk_alloc ?_ _)); exact BK443.out⟩, ⟨by (with_reducible repeat (first | refine blk_drewN ?_ _ | refine blk_drew ?_ | refine blk_alloc ?_ _)); refine blk_far ?_ NB444_462.out _; (with_reducible repeat (first | refine blk_drewN ?_ _ | refine blk_drew ?_ | refine blk_alloc ?_ _)); refine blk_far ?_ NB444_462.out _; (with_reducible repeat (first | refine blk_drewN ?_ _ | refine blk_drew ?_ | refine blk_alloc ?_ _)); refine blk_far ?_ NB444_462.out _; (with_reducible repeat (first | refine blk_drewN ?_ _ | refine blk_drew ?_ | refine blk_alloc ?_ _)); refine blk_far ?_ NB444_462.out _; (with_reducible repeat (first | refine blk_drewN ?_ _ | refine blk_drew ?_ | refine blk_alloc ?_ _)); refine blk_far ?_ NB444_462.out _; (with_reducible repeat (first | refine blk_drewN ?_ _ | refine blk_drew ?_ | refine blk_alloc ?_ _)); refine blk_far ?_ NB444_462.out _; (with_reducible repeat (first | refine blk_drewN ?_ _ | refine blk_drew ?_ | refine blk_alloc ?_ _)); exact BK444.out⟩, ⟨by (with_reducible repeat (first | refine blk_drewN ?_ _ | refine blk_drew ?_ | refine blk_alloc ?_ _)); refine blk_put (cs := #[.int .i64 t451, .int .i64 t452, .int .i64 t453, .bool t454, .slice Ao61 t455.length co61, .slice none 0 0]) ?_ 5 _ rfl; (with_reducible repeat (first | refine blk_drewN ?_ _ | refine blk_drew ?_ | refine blk_alloc ?_ _)); refine blk_put (cs := #[.int .i64 t451, .int .i64 t452, .int .i64 t453, .bool t454, .slice none 0 0, .slice none 0 0]) ?_ 4 _ rfl; (with_reducible repeat (first | refine blk_drewN ?_ _ | refine blk_drew ?_ | refine blk_alloc ?_ _)); refine blk_put (cs := #[.int .i64 t451, .int .i64 t452, .int .i64 t453, .bool false, .slice none 0 0, .slice none 0 0]) ?_ 3 _ rfl; (with_reducible repeat (first | refine blk_drewN ?_ _ | refine blk_drew ?_ | refine blk_alloc ?_ _)); refine blk_put (cs := #[.int .i64 t451, .int .i64 t452, .int .i64 0, .bool false, .slice none 0 0, .slice none 0 0]) ?_ 2 _ rfl; (with_reducible repeat (first | refine blk_drewN ?_ _ | refine blk_drew ?_ | refine blk_alloc ?_ _)); refine blk_put (cs := #[.int .i64 t451, .int .i64 0, .int .i64 0, .bool false, .slice none 0 0, .slice none 0 0]) ?_ 1 _ rfl; (with_reducible repeat (first | refine blk_drewN ?_ _ | refine blk_drew ?_ | refine blk_alloc ?_ _)); refine blk_put (cs := #[.int .i64 0, .int .i64 0, .int .i64 0, .bool false, .slice none 0 0, .slice none 0 0]) ?_ 0 _ rfl; (with_reducible repeat (first | refine blk_drewN ?_ _ | refine blk_drew ?_ | refine blk_alloc ?_ _)); exact BK462.out⟩, ⟨by repeat (first | (with_reducible first | exact HB.out | apply bA | apply bN | apply bD | apply bS GE443.out | apply bS GE444.out | apply bS GE462.out) | exact HB.out)⟩⟩
        case rest =>
         clear HC52
         (try clear c4); (try clear c40); (try clear c44); (try clear c44b0); (try clear hcz42_0); (try clear hcz42_1); (try clear hcz42_2); (try clear hcz42_3); (try clear hcz42_4); (try clear hcz42_5); (try clear hcz43_0); (try clear hcz43_1); (try clear hcz43_2); (try clear hcz43_3); (try clear hcz43_4); (try clear hcz43_5); (try clear hcz54_0); (try clear hcz54_1); (try clear hcz54_2); (try clear hcz54_3); (try clear hcz54_4); (try clear hcz54_5); (try clear hcz55_0); (try clear hcz55_1); (try clear hcz55_2); (try clear hcz55_3); (try clear hcz55_4); (try clear hcz55_5); (try clear hcz60_0); (try clear hcz60_1); (try clear hcz60_2); (try clear hcz60_3); (try clear hcz60_4); (try clear hcz60_5); (try clear hfz42_0); (try clear hfz42_1); (try clear hfz42_2); (try clear hfz42_3); (try clear hfz42_4); (try clear hfz42_5); (try clear hfz43_0); (try clear hfz43_1); (try clear hfz43_2); (try clear hfz43_3); (try clear hfz43_4); (try clear hfz43_5); (try clear hfz54_0); (try clear hfz54_1); (try clear hfz54_2); (try clear hfz54_3); (try clear hfz54_4); (try clear hfz54_5); (try clear hfz55_0); (try clear hfz55_1); (try clear hfz55_2); (try clear hfz55_3); (try clear hfz55_4); (try clear hfz55_5); (try clear hfz60_0); (try clear hfz60_1); (try clear hfz60_2); (try clear hfz60_3); (try clear hfz60_4); (try clear hfz60_5)
         obtain ⟨kq, x59_51, rfl, HA, HJ51, HO_463004, HO_463005, BK443, BK444, BK462, HB⟩ := hcut
         cases kq with
         | zero => exact absurd HA.out (by simp [waypointlaw32_LsaPurges.j2])
         | succ kj51 =>
          have H := HA.out
          clear HA
          simp only [waypointlaw32_LsaPurges.j2] at H
          by_cases c69 : x59_51 = true
          ·subst c69
           have H1 : (none) = some r := by rw [if_pos rfl] at H; exact H
           clear H
           have H := H1
           clear H1
           exact absurd H (by simp)
          ·replace c69 := Bool.eq_false_iff.mpr c69
           subst c69
           have H1 : (if a1_1 > a0_1 then (waypointlaw32_LsaPurges.j3 kj51 (-1) a0_0 a0_1 a0_2 a0_3 l0_4 l0_5 a0_0 a1_1 a1_2 a1_3 l1_4 l1_5 t451 t452 t453 t454 t455 t458) else (waypointlaw32_LsaPurges.j3 kj51 1 a0_0 a0_1 a0_2 a0_3 l0_4 l0_5 a0_0 a1_1 a1_2 a1_3 l1_4 l1_5 t451 t452 t453 t454 t455 t458)) = some r := by rw [if_neg (show ¬ (false = true) by decide)] at H; exact H
           clear H
           have H := H1
           clear H1
           have HC70 := Aside0.mk H
           clear H
           have hnb71 := NB444_443.out
           have hnc71 := NB443_444.out
           have hnb72 := NB444_462.out
           have hnc72 := NB462_444.out
           obtain ⟨hcz73_0, hcz73_1, hcz73_2, hcz73_3, hcz73_4, hcz73_5, hfz73_0, hfz73_1, hfz73_2, hfz73_3, hfz73_4, hfz73_5⟩ := c6_ BK444
           have hnb74 := NB443_462.out
           have hnc74 := NB462_443.out
           obtain ⟨hcz75_0, hcz75_1, hcz75_2, hcz75_3, hcz75_4, hcz75_5, hfz75_0, hfz75_1, hfz75_2, hfz75_3, hfz75_4, hfz75_5⟩ := c6_ BK443
           go_upto_if 64 with (fail)
           repeat (go_quiet (fail); go_upto_if 64 with (fail))
           go_cut [8] (fun v8 wc => ∃ (kq : Nat) (x8_69 : Int), v8 = .int .i64 x8_69 ∧ Aside0 (waypointlaw32_LsaPurges.j3 kq x8_69 a0_0 a0_1 a0_2 a0_3 l0_4 l0_5 a0_0 a1_1 a1_2 a1_3 l1_4 l1_5 t451 t452 t453 t454 t455 t458 = some r) ∧ Aside0 (kq ≤ kj51) ∧ Aside0 (Kd.R k43 43 wc w.heap.size (fun _ => True) (.slice Ao61 t455.length co61) t455) ∧ Aside0 (Kd.R k56 56 wc w.heap.size (fun _ => True) (.slice Ao62 t458.length co62) t458) ∧ Aside0 (wc.heap[gb443]? = some (.cells #[.int .i64 a0_0, .int .i64 a0_1, .int .i64 a0_2, .bool a0_3, (.slice A0_4 l0_4.length c0_4), (.slice A0_5 l0_5.length c0_5)] 25 (0, 0))) ∧ Aside0 (wc.heap[gb444]? = some (.cells #[.int .i64 a0_0, .int .i64 a1_1, .int .i64 a1_2, .bool a1_3, (.slice A1_4 l1_4.length c1_4), (.slice A1_5 l1_5.length c1_5)] 25 (0, 0))) ∧ Aside0 (wc.heap[gb462]? = some (.cells #[.int .i64 t451, .int .i64 t452, .int .i64 t453, .bool t454, (.slice Ao61 t455.length co61), (.slice Ao62 t458.length co62)] 25 (0, 0))) ∧ Aside0 (Below w.heap.size w wc))
           case first =>
            have H := HC70.out
            clear HC70
            by_cases c76 : a1_1 > a0_1
            ·rw [if_pos c76] at H
             have c76b0 : decide (a0_1 < a1_1) = true := decide_eq_true c76
             clear c76
             (first | rw [c76b0] | (simp only [i64_w, i32_w]; rw [c76b0]) | skip)
             have H' := Aside0.mk H
             clear H
             go_wp2
             repeat (go_quiet (fail); try go_wp2)
             go_meet
             case rel => exact ⟨_, ((-1)), (by first | rfl | (simp; done) | (simp [*]; done)), H', ⟨by have := HJ4.out; have := HK2.out; have := HJ51.out; first | omega | exact Nat.le_refl _⟩, ⟨by (with_reducible repeat (first | apply Kd.R_alloc | apply Kd.R_drewN | apply Kd.R_drew)); exact HO_463004.out⟩, ⟨by (with_reducible repeat (first | apply Kd.R_alloc | apply Kd.R_drewN | apply Kd.R_drew)); exact HO_463005.out⟩, ⟨kb_ BK443⟩, ⟨kb_ BK444⟩, ⟨kb_ BK462⟩, ⟨by repeat (first | (with_reducible first | exact HB.out | apply bA | apply bN | apply bD | apply bS GE443.out | apply bS GE444.out | apply bS GE462.out) | exact HB.out)⟩⟩
            ·rw [if_neg c76] at H
             have c76b0 : decide (a0_1 < a1_1) = false := decide_eq_false c76
             clear c76
             (first | rw [c76b0] | (simp only [i64_w, i32_w]; rw [c76b0]) | skip)
             have H' := Aside0.mk H
             clear H
             go_wp2
             repeat (go_quiet (fail); try go_wp2)
             go_meet
             case rel => exact ⟨_, (1), (by first | rfl | (simp; done) | (simp [*]; done)), H', ⟨by have := HJ4.out; have := HK2.out; have := HJ51.out; first | omega | exact Nat.le_refl _⟩, ⟨by (with_reducible repeat (first | apply Kd.R_alloc | apply Kd.R_drewN | apply Kd.R_drew)); exact HO_463004.out⟩, ⟨by (with_reducible repeat (first | apply Kd.R_alloc | apply Kd.R_drewN | apply Kd.R_drew)); exact HO_463005.out⟩, ⟨kb_ BK443⟩, ⟨kb_ BK444⟩, ⟨kb_ BK462⟩, ⟨by repeat (first | (with_reducible first | exact HB.out | apply bA | apply bN | apply bD | apply bS GE443.out | apply bS GE444.out | apply bS GE462.out) | exact HB.out)⟩⟩
           case rest =>
            clear HC70
            (try clear c4); (try clear c40); (try clear c44); (try clear c44b0); (try clear c69); (try clear hcz42_0); (try clear hcz42_1); (try clear hcz42_2); (try clear hcz42_3); (try clear hcz42_4); (try clear hcz42_5); (try clear hcz43_0); (try clear hcz43_1); (try clear hcz43_2); (try clear hcz43_3); (try clear hcz43_4); (try clear hcz43_5); (try clear hcz54_0); (try clear hcz54_1); (try clear hcz54_2); (try clear hcz54_3); (try clear hcz54_4); (try clear hcz54_5); (try clear hcz55_0); (try clear hcz55_1); (try clear hcz55_2); (try clear hcz55_3); (try clear hcz55_4); (try clear hcz55_5); (try clear hcz60_0); (try clear hcz60_1); (try clear hcz60_2); (try clear hcz60_3); (try clear hcz60_4); (try clear hcz60_5); (try clear hcz73_0); (try clear hcz73_1); (try clear hcz73_2); (try clear hcz73_3); (try clear hcz73_4); (try clear hcz73_5); (try clear hcz75_0); (try clear hcz75_1); (try clear hcz75_2); (try clear hcz75_3); (try clear hcz75_4); (try clear hcz75_5); (try clear hfz42_0); (try clear hfz42_1); (try clear hfz42_2); (try clear hfz42_3); (try clear hfz42_4); (try clear hfz42_5); (try clear hfz43_0); (try clear hfz43_1); (try clear hfz43_2); (try clear hfz43_3); (try clear hfz43_4); (try clear hfz43_5); (try clear hfz54_0); (try clear hfz54_1); (try clear hfz54_2); (try clear hfz54_3); (try clear hfz54_4); (try clear hfz54_5); (try clear hfz55_0); (try clear hfz55_1); (try clear hfz55_2); (try clear hfz55_3); (try clear hfz55_4); (try clear hfz55_5); (try clear hfz60_0); (try clear hfz60_1); (try clear hfz60_2); (try clear hfz60_3); (try clear hfz60_4); (try clear hfz60_5); (try clear hfz73_0); (try clear hfz73_1); (try clear hfz73_2); (try clear hfz73_3); (try clear hfz73_4); (try clear hfz73_5); (try clear hfz75_0); (try clear hfz75_1); (try clear hfz75_2); (try clear hfz75_3); (try clear hfz75_4); (try clear hfz75_5)
            obtain ⟨kq, x8_69, rfl, HA, HJ69, HO_463004, HO_463005, BK443, BK444, BK462, HB⟩ := hcut
            cases kq with
            | zero => exact absurd HA.out (by simp [waypointlaw32_LsaPurges.j3])
            | succ kj69 =>
             have H := HA.out
             clear HA
             simp only [waypointlaw32_LsaPurges.j3] at H
             by_cases c77 : a1_1 = a0_1
             ·rw [if_pos c77] at H
              have c77b0 : (a1_1 == a0_1) = true := beq_iff_eq.mpr c77
              have c77b1 : (a1_1 != a0_1) = false := bne_eq_false_iff_eq.mpr c77
              clear c77
              have HC78 := Aside0.mk H
              clear H
              have hnb79 := NB444_443.out
              have hnc79 := NB443_444.out
              have hnb80 := NB444_462.out
              have hnc80 := NB462_444.out
              obtain ⟨hcz81_0, hcz81_1, hcz81_2, hcz81_3, hcz81_4, hcz81_5, hfz81_0, hfz81_1, hfz81_2, hfz81_3, hfz81_4, hfz81_5⟩ := c6_ BK444
              have hnb82 := NB443_462.out
              have hnc82 := NB462_443.out
              obtain ⟨hcz83_0, hcz83_1, hcz83_2, hcz83_3, hcz83_4, hcz83_5, hfz83_0, hfz83_1, hfz83_2, hfz83_3, hfz83_4, hfz83_5⟩ := c6_ BK443
              go_upto_if 74 with (fail)
              repeat (go_quiet (fail); go_upto_if 74 with (fail))
              go_cut [8] (fun v8 wc => ∃ (kq : Nat) (x8_77 : Int), v8 = .int .i64 x8_77 ∧ Aside0 (waypointlaw32_LsaPurges.j4 kq x8_77 a0_0 a1_1 a1_2 a1_3 l1_4 l1_5 t451 t452 t453 t454 t455 t458 = some r) ∧ Aside0 (kq ≤ kj69) ∧ Aside0 (Kd.R k43 43 wc w.heap.size (fun _ => True) (.slice Ao61 t455.length co61) t455) ∧ Aside0 (Kd.R k56 56 wc w.heap.size (fun _ => True) (.slice Ao62 t458.length co62) t458) ∧ Aside0 (wc.heap[gb443]? = some (.cells #[.int .i64 a0_0, .int .i64 a0_1, .int .i64 a0_2, .bool a0_3, (.slice A0_4 l0_4.length c0_4), (.slice A0_5 l0_5.length c0_5)] 25 (0, 0))) ∧ Aside0 (wc.heap[gb444]? = some (.cells #[.int .i64 a0_0, .int .i64 a1_1, .int .i64 a1_2, .bool a1_3, (.slice A1_4 l1_4.length c1_4), (.slice A1_5 l1_5.length c1_5)] 25 (0, 0))) ∧ Aside0 (wc.heap[gb462]? = some (.cells #[.int .i64 t451, .int .i64 t452, .int .i64 t453, .bool t454, (.slice Ao61 t455.length co61), (.slice Ao62 t458.length co62)] 25 (0, 0))) ∧ Aside0 (Below w.heap.size w wc))
              case first =>
               have H := HC78.out
               clear HC78
               by_cases c84 : a1_2 = 3600
               ·rw [if_pos c84] at H
                have c84b0 : (a1_2 == 3600) = true := beq_iff_eq.mpr c84
                have c84b1 : (a1_2 != 3600) = false := bne_eq_false_iff_eq.mpr c84
                clear c84
                (first | rw [c84b0] | (simp only [i64_w, i32_w]; rw [c84b0]) | skip)
                have H' := Aside0.mk H
                clear H
                go_wp2
                repeat (go_quiet (fail); try go_wp2)
                go_meet
                case rel => exact ⟨_, (0), (by first | rfl | (simp; done) | (simp [*]; done)), H', ⟨by have := HJ4.out; have := HK2.out; have := HJ51.out; have := HJ69.out; first | omega | exact Nat.le_refl _⟩, ⟨by (with_reducible repeat (first | apply Kd.R_alloc | apply Kd.R_drewN | apply Kd.R_drew)); exact HO_463004.out⟩, ⟨by (with_reducible repeat (first | apply Kd.R_alloc | apply Kd.R_drewN | apply Kd.R_drew)); exact HO_463005.out⟩, ⟨kb_ BK443⟩, ⟨kb_ BK444⟩, ⟨kb_ BK462⟩, ⟨by repeat (first | (with_reducible first | exact HB.out | apply bA | apply bN | apply bD | apply bS GE443.out | apply bS GE444.out | apply bS GE462.out) | exact HB.out)⟩⟩
               ·rw [if_neg c84] at H
                have c84b0 : (a1_2 == 3600) = false := beq_eq_false_iff_ne.mpr c84
                have c84b1 : (a1_2 != 3600) = true := bne_iff_ne.mpr c84
                (first | rw [c84b0] | (simp only [i64_w, i32_w]; rw [c84b0]) | skip)
                have H' := Aside0.mk H
                clear H
                go_wp2
                repeat (go_quiet (fail); try go_wp2)
                go_meet
                case rel => exact ⟨_, (x8_69), (by first | rfl | (simp; done) | (simp [*]; done)), H', ⟨by have := HJ4.out; have := HK2.out; have := HJ51.out; have := HJ69.out; first | omega | exact Nat.le_refl _⟩, ⟨by (with_reducible repeat (first | apply Kd.R_alloc | apply Kd.R_drewN | apply Kd.R_drew)); exact HO_463004.out⟩, ⟨by (with_reducible repeat (first | apply Kd.R_alloc | apply Kd.R_drewN | apply Kd.R_drew)); exact HO_463005.out⟩, ⟨kb_ BK443⟩, ⟨kb_ BK444⟩, ⟨kb_ BK462⟩, ⟨by repeat (first | (with_reducible first | exact HB.out | apply bA | apply bN | apply bD | apply bS GE443.out | apply bS GE444.out | apply bS GE462.out) | exact HB.out)⟩⟩
              case rest =>
               clear HC78
               (try clear c4); (try clear c40); (try clear c44); (try clear c44b0); (try clear c69); (try clear c77); (try clear c77b0); (try clear c77b1); (try clear hcz42_0); (try clear hcz42_1); (try clear hcz42_2); (try clear hcz42_3); (try clear hcz42_4); (try clear hcz42_5); (try clear hcz43_0); (try clear hcz43_1); (try clear hcz43_2); (try clear hcz43_3); (try clear hcz43_4); (try clear hcz43_5); (try clear hcz54_0); (try clear hcz54_1); (try clear hcz54_2); (try clear hcz54_3); (try clear hcz54_4); (try clear hcz54_5); (try clear hcz55_0); (try clear hcz55_1); (try clear hcz55_2); (try clear hcz55_3); (try clear hcz55_4); (try clear hcz55_5); (try clear hcz60_0); (try clear hcz60_1); (try clear hcz60_2); (try clear hcz60_3); (try clear hcz60_4); (try clear hcz60_5); (try clear hcz73_0); (try clear hcz73_1); (try clear hcz73_2); (try clear hcz73_3); (try clear hcz73_4); (try clear hcz73_5); (try clear hcz75_0); (try clear hcz75_1); (try clear hcz75_2); (try clear hcz75_3); (try clear hcz75_4); (try clear hcz75_5); (try clear hcz81_0); (try clear hcz81_1); (try clear hcz81_2); (try clear hcz81_3); (try clear hcz81_4); (try clear hcz81_5); (try clear hcz83_0); (try clear hcz83_1); (try clear hcz83_2); (try clear hcz83_3); (try clear hcz83_4); (try clear hcz83_5); (try clear hfz42_0); (try clear hfz42_1); (try clear hfz42_2); (try clear hfz42_3); (try clear hfz42_4); (try clear hfz42_5); (try clear hfz43_0); (try clear hfz43_1); (try clear hfz43_2); (try clear hfz43_3); (try clear hfz43_4); (try clear hfz43_5); (try clear hfz54_0); (try clear hfz54_1); (try clear hfz54_2); (try clear hfz54_3); (try clear hfz54_4); (try clear hfz54_5); (try clear hfz55_0); (try clear hfz55_1); (try clear hfz55_2); (try clear hfz55_3); (try clear hfz55_4); (try clear hfz55_5); (try clear hfz60_0); (try clear hfz60_1); (try clear hfz60_2); (try clear hfz60_3); (try clear hfz60_4); (try clear hfz60_5); (try clear hfz73_0); (try clear hfz73_1); (try clear hfz73_2); (try clear hfz73_3); (try clear hfz73_4); (try clear hfz73_5); (try clear hfz75_0); (try clear hfz75_1); (try clear hfz75_2); (try clear hfz75_3); (try clear hfz75_4); (try clear hfz75_5); (try clear hfz81_0); (try clear hfz81_1); (try clear hfz81_2); (try clear hfz81_3); (try clear hfz81_4); (try clear hfz81_5); (try clear hfz83_0); (try clear hfz83_1); (try clear hfz83_2); (try clear hfz83_3); (try clear hfz83_4); (try clear hfz83_5)
               obtain ⟨kq, x8_77, rfl, HA, HJ77, HO_463004, HO_463005, BK443, BK444, BK462, HB⟩ := hcut
               cases kq with
               | zero => exact absurd HA.out (by simp [waypointlaw32_LsaPurges.j4])
               | succ kj77 =>
                have H := HA.out
                clear HA
                simp only [waypointlaw32_LsaPurges.j4] at H
                replace H := Option.bind_eq_some_iff.mp H
                obtain ⟨t464, A850, H⟩ := H
                replace H : (some (t464 == x8_77)) = some r := H
                have A85 := Aside0.mk A850
                clear A850
                obtain rfl := Option.some.inj H
                have hnb86 := NB462_443.out
                have hnc86 := NB443_462.out
                have hnb87 := NB462_444.out
                have hnc87 := NB444_462.out
                obtain ⟨hcz88_0, hcz88_1, hcz88_2, hcz88_3, hcz88_4, hcz88_5, hfz88_0, hfz88_1, hfz88_2, hfz88_3, hfz88_4, hfz88_5⟩ := c6_ BK462
                have hnb89 := NB444_443.out
                have hnc89 := NB443_444.out
                obtain ⟨hcz90_0, hcz90_1, hcz90_2, hcz90_3, hcz90_4, hcz90_5, hfz90_0, hfz90_1, hfz90_2, hfz90_3, hfz90_4, hfz90_5⟩ := c6_ BK444
                go_wp2_with (first | (go_at_call 21; (with_reducible refine (lsa_Newer.calls kj77 t451 t452 t453 t454 _ _ t455 _ _ t458 a0_0 a1_1 a1_2 a1_3 _ _ l1_4 _ _ l1_5 t464 _ ?side1 ?side2 ?side3 ?side4 ?side5 ?side6 ?side7 ?side8 A85.out).mono ?_); (case side1 => repeat (first | exact (Kd.R_reads' HO_463004.out).2.2 | (with_reducible refine Kd.C_alloc ?_ _) | (with_reducible refine Kd.C_drewN ?_ _) | (with_reducible refine Kd.C_drew ?_))); (case side2 => exact (Kd.R_reads' HO_463004.out).2.1); (case side3 => repeat (first | exact (Kd.R_reads' HO_463005.out).2.2 | (with_reducible refine Kd.C_alloc ?_ _) | (with_reducible refine Kd.C_drewN ?_ _) | (with_reducible refine Kd.C_drew ?_))); (case side4 => exact (Kd.R_reads' HO_463005.out).2.1); (case side5 => exact cs_ HR1_4 HB); (case side6 => exact HC1_4.out); (case side7 => exact cs_ HR1_5 HB); (case side8 => exact HC1_5.out); rintro e w91 ⟨rfl, hb⟩; replace HO_463004 := Aside0.mk (Kd.R_below (by (with_reducible repeat (first | apply Kd.R_alloc | apply Kd.R_drewN | apply Kd.R_drew)); exact HO_463004.out) hb); replace HO_463005 := Aside0.mk (Kd.R_below (by (with_reducible repeat (first | apply Kd.R_alloc | apply Kd.R_drewN | apply Kd.R_drew)); exact HO_463005.out) hb); replace BK443 := bb_ BK443 hb; replace BK444 := bb_ BK444 hb; replace BK462 := bb_ BK462 hb; replace HB := Aside0.mk (below_step (by repeat (first | (with_reducible first | exact HB.out | apply bA | apply bN | apply bD | apply bS GE443.out | apply bS GE444.out | apply bS GE462.out) | exact HB.out)) hb); (try clear hb); (try clear hb2); (try clear hk); (try clear hi)))
                go_ret
                exact ⟨by first | rfl | (simp [errW_none, errW_some] <;> rfl) | (simp [*, errW_none, errW_some] <;> rfl), by repeat (first | (with_reducible first | exact HB.out | apply bA | apply bN | apply bD | apply bS GE443.out | apply bS GE444.out | apply bS GE462.out) | exact HB.out)⟩
             ·rw [if_neg c77] at H
              have c77b0 : (a1_1 == a0_1) = false := beq_eq_false_iff_ne.mpr c77
              have c77b1 : (a1_1 != a0_1) = true := bne_iff_ne.mpr c77
              replace H := Option.bind_eq_some_iff.mp H
              obtain ⟨t465, A920, H⟩ := H
              replace H : (some (t465 == x8_69)) = some r := H
              have A92 := Aside0.mk A920
              clear A920
              obtain rfl := Option.some.inj H
              have hnb93 := NB444_443.out
              have hnc93 := NB443_444.out
              have hnb94 := NB444_462.out
              have hnc94 := NB462_444.out
              obtain ⟨hcz95_0, hcz95_1, hcz95_2, hcz95_3, hcz95_4, hcz95_5, hfz95_0, hfz95_1, hfz95_2, hfz95_3, hfz95_4, hfz95_5⟩ := c6_ BK444
              have hnb96 := NB443_462.out
              have hnc96 := NB462_443.out
              obtain ⟨hcz97_0, hcz97_1, hcz97_2, hcz97_3, hcz97_4, hcz97_5, hfz97_0, hfz97_1, hfz97_2, hfz97_3, hfz97_4, hfz97_5⟩ := c6_ BK443
              obtain ⟨hcz98_0, hcz98_1, hcz98_2, hcz98_3, hcz98_4, hcz98_5, hfz98_0, hfz98_1, hfz98_2, hfz98_3, hfz98_4, hfz98_5⟩ := c6_ BK462
              go_wp2_with (first | (go_at_call 21; (with_reducible refine (lsa_Newer.calls kj69 t451 t452 t453 t454 _ _ t455 _ _ t458 a0_0 a1_1 a1_2 a1_3 _ _ l1_4 _ _ l1_5 t465 _ ?side1 ?side2 ?side3 ?side4 ?side5 ?side6 ?side7 ?side8 A92.out).mono ?_); (case side1 => repeat (first | exact (Kd.R_reads' HO_463004.out).2.2 | (with_reducible refine Kd.C_alloc ?_ _) | (with_reducible refine Kd.C_drewN ?_ _) | (with_reducible refine Kd.C_drew ?_))); (case side2 => exact (Kd.R_reads' HO_463004.out).2.1); (case side3 => repeat (first | exact (Kd.R_reads' HO_463005.out).2.2 | (with_reducible refine Kd.C_alloc ?_ _) | (with_reducible refine Kd.C_drewN ?_ _) | (with_reducible refine Kd.C_drew ?_))); (case side4 => exact (Kd.R_reads' HO_463005.out).2.1); (case side5 => exact cs_ HR1_4 HB); (case side6 => exact HC1_4.out); (case side7 => exact cs_ HR1_5 HB); (case side8 => exact HC1_5.out); rintro e w99 ⟨rfl, hb⟩; replace HO_463004 := Aside0.mk (Kd.R_below (by (with_reducible repeat (first | apply Kd.R_alloc | apply Kd.R_drewN | apply Kd.R_drew)); exact HO_463004.out) hb); replace HO_463005 := Aside0.mk (Kd.R_below (by (with_reducible repeat (first | apply Kd.R_alloc | apply Kd.R_drewN | apply Kd.R_drew)); exact HO_463005.out) hb); replace BK443 := bb_ BK443 hb; replace BK444 := bb_ BK444 hb; replace BK462 := bb_ BK462 hb; replace HB := Aside0.mk (below_step (by repeat (first | (with_reducible first | exact HB.out | apply bA | apply bN | apply bD | apply bS GE443.out | apply bS GE444.out | apply bS GE462.out) | exact HB.out)) hb); (try clear hb); (try clear hb2); (try clear hk); (try clear hi)))
              go_ret
              exact ⟨by first | rfl | (simp [errW_none, errW_some] <;> rfl) | (simp [*, errW_none, errW_some] <;> rfl), by repeat (first | (with_reducible first | exact HB.out | apply bA | apply bN | apply bD | apply bS GE443.out | apply bS GE444.out | apply bS GE462.out) | exact HB.out)⟩
 ·replace c4 := Bool.eq_false_iff.mpr c4
  subst c4
  have H1 : (none) = some r := by rw [if_neg (show ¬ (false = true) by decide)] at H; exact H
  clear H
  have H := H1
  clear H1
  exact absurd H (by simp)

/-! ### waypointref32_sign: function 48 -/
def waypointref32_sign.f (a0 : Int) : Option (Int) := if a0 < 0 then (some (-1)) else (if a0 > 0 then (some 1) else (some 0))
set_option maxHeartbeats 8000000 in
set_option maxRecDepth 100000 in
theorem waypointref32_sign.calls (a0 : Int) (r : Int) (w : World) (h : waypointref32_sign.f a0 = some r) :
  Calls Try.prog 48 #[.int .i64 a0] w fun e w' => e = .returned (.int .i64 r) ∧ Drawn0 w w' := by
 have H : (if a0 < 0 then (some (-1)) else (if a0 > 0 then (some 1) else (some 0))) = some r := h
 clear h
 by_cases c2 : a0 < 0
 ·rw [if_pos c2] at H
  have c2b0 : decide (a0 < 0) = true := decide_eq_true c2
  clear c2
  obtain rfl := Option.some.inj H
  go_enter Try.func48, Try.ntmps48
  go_wp2
  go_ret
  exact ⟨by first | rfl | (simp; done) | (simp [*]; done), by repeat (first | exact Drawn0.refl _ | apply Drawn0.step)⟩
 ·rw [if_neg c2] at H
  have c2b0 : decide (a0 < 0) = false := decide_eq_false c2
  clear c2
  by_cases c3 : a0 > 0
  ·rw [if_pos c3] at H
   have c3b0 : decide (0 < a0) = true := decide_eq_true c3
   clear c3
   obtain rfl := Option.some.inj H
   go_enter Try.func48, Try.ntmps48
   go_wp2
   go_ret
   exact ⟨by first | rfl | (simp; done) | (simp [*]; done), by repeat (first | exact Drawn0.refl _ | apply Drawn0.step)⟩
  ·rw [if_neg c3] at H
   have c3b0 : decide (0 < a0) = false := decide_eq_false c3
   clear c3
   obtain rfl := Option.some.inj H
   go_enter Try.func48, Try.ntmps48
   go_wp2
   go_ret
   exact ⟨by first | rfl | (simp; done) | (simp [*]; done), by repeat (first | exact Drawn0.refl _ | apply Drawn0.step)⟩

end Go.Proofs.Ytmknjjfdlkgidaa.HLsc
