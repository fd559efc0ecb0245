-- LAID by wip/hand.py, a program of this repository, over the kit's print: contracts of our own are put in. Lean checks it.
import Derived.Test.YtmknjjfdlkgidaaHLscx0
import Derived.Test.YtmknjjfdlkgidaaHLscx3
namespace Go.Proofs.Ytmknjjfdlkgidaa.HLsc
open Go.RowKit Go.Proofs.YtmknjjfdlkgidaaW.PrintWords Go.Proofs.YtmknjjfdlkgidaaW.PrintLast Go.Proofs.YtmknjjfdlkgidaaW.PrintMore
attribute [local go_sem] gtr_str leq_str max2_int min2_int max_two min_two max_three min_three max_four min_four   -- for this text's walks alone
set_option linter.unusedVariables false
set_option linter.unusedSimpArgs false

/-! ### lsa_Valid: function 14 -/
mutual
def lsa_Valid.j0 : Nat → Bool → Int → Int → Int → Bool → List (S43) → List (S56) → Option (Bool)
 | 0, _, _, _, _, _, _, _ => none
 | k + 1, x34, x110000, x110001, x110002, x110003, x110004, x110005 => if x34 = true then (some false) else (if x110002 = 3600 then (if x110003 = true then (lsa_Valid.j1 k true x110000 x110001 x110002 x110003 x110004 x110005) else (if (x110004.length : Int) > 0 then (lsa_Valid.j1 k true x110000 x110001 x110002 x110003 x110004 x110005) else (lsa_Valid.j1 k (decide ((x110005.length : Int) > 0)) x110000 x110001 x110002 x110003 x110004 x110005))) else (lsa_Valid.j1 k false x110000 x110001 x110002 x110003 x110004 x110005))
def lsa_Valid.j1 : Nat → Bool → Int → Int → Int → Bool → List (S43) → List (S56) → Option (Bool)
 | 0, _, _, _, _, _, _, _ => none
 | k + 1, x53, x110000, x110001, x110002, x110003, x110004, x110005 => if x53 = true then (some false) else (lsa_Valid.l0 k x110004 (x110004.length : Int) 0 x110000 x110001 x110002 x110003 x110004 x110005)
def lsa_Valid.l0 : Nat → List (S43) → Int → Int → Int → Int → Int → Bool → List (S43) → List (S56) → Option (Bool)
 | 0, _, _, _, _, _, _, _, _, _ => none
 | k + 1, x55, x56, x57, x110000, x110001, x110002, x110003, x110004, x110005 => if x57 < x56 then (if 0 ≤ x57 then (if x57 < (x55.length : Int) then ((lsa_adjacency.f x110000 ((rd_T43 x55 x57).f0) ((rd_T43 x55 x57).f1) ((rd_T43 x55 x57).f2)).bind fun t115 => (if t115 = true then (if x57 > 0 then (if 0 ≤ (wrap64 (x57 - 1)) then (if (wrap64 (x57 - 1)) < (x110004.length : Int) then (lsa_Valid.j3 k x55 x56 x57 (decide (((rd_T43 x110004 (wrap64 (x57 - 1))).f1) ≥ ((rd_T43 x55 x57).f1))) x110000 x110001 x110002 x110003 x110004 x110005) else (none)) else (none)) else (lsa_Valid.j3 k x55 x56 x57 false x110000 x110001 x110002 x110003 x110004 x110005)) else (lsa_Valid.j3 k x55 x56 x57 true x110000 x110001 x110002 x110003 x110004 x110005))) else (none)) else (none)) else (lsa_Valid.l1 k x110005 (x110005.length : Int) 0 x110000 x110001 x110002 x110003 x110004 x110005)
def lsa_Valid.j3 : Nat → List (S43) → Int → Int → Bool → Int → Int → Int → Bool → List (S43) → List (S56) → Option (Bool)
 | 0, _, _, _, _, _, _, _, _, _, _ => none
 | k + 1, x55, x56, x57, x82, x110000, x110001, x110002, x110003, x110004, x110005 => if x82 = true then (some false) else (lsa_Valid.l0 k x55 x56 (wrap64 (x57 + 1)) x110000 x110001 x110002 x110003 x110004 x110005)
def lsa_Valid.l1 : Nat → List (S56) → Int → Int → Int → Int → Int → Bool → List (S43) → List (S56) → Option (Bool)
 | 0, _, _, _, _, _, _, _, _, _ => none
 | k + 1, x85, x86, x87, x110000, x110001, x110002, x110003, x110004, x110005 => if x87 < x86 then (if 0 ≤ x87 then (if x87 < (x85.length : Int) then ((lsa_prefix.f ((rd_T56 x85 x87).f0) ((rd_T56 x85 x87).f1)).bind fun t119 => (if t119 = true then (if x87 > 0 then (if 0 ≤ (wrap64 (x87 - 1)) then (if (wrap64 (x87 - 1)) < (x110005.length : Int) then ((lsa_less.f ((rd_T56 x110005 (wrap64 (x87 - 1))).f0) ((rd_T56 x110005 (wrap64 (x87 - 1))).f1) ((rd_T56 x85 x87).f0) ((rd_T56 x85 x87).f1)).bind fun t121 => (lsa_Valid.j5 k x85 x86 x87 (!t121) x110000 x110001 x110002 x110003 x110004 x110005)) else (none)) else (none)) else (lsa_Valid.j5 k x85 x86 x87 false x110000 x110001 x110002 x110003 x110004 x110005)) else (lsa_Valid.j5 k x85 x86 x87 true x110000 x110001 x110002 x110003 x110004 x110005))) else (none)) else (none)) else (some true)
def lsa_Valid.j5 : Nat → List (S56) → Int → Int → Bool → Int → Int → Int → Bool → List (S43) → List (S56) → Option (Bool)
 | 0, _, _, _, _, _, _, _, _, _, _ => none
 | k + 1, x85, x86, x87, x109, x110000, x110001, x110002, x110003, x110004, x110005 => if x109 = true then (some false) else (lsa_Valid.l1 k x85 x86 (wrap64 (x87 + 1)) x110000 x110001 x110002 x110003 x110004 x110005)
end
def lsa_Valid.f (k : Nat) (a0_0 : Int) (a0_1 : Int) (a0_2 : Int) (a0_3 : Bool) (l0_4 : List (S43)) (l0_5 : List (S56)) : Option (Bool) := (lsa_within.f a0_0 0 63).bind fun t110 => (if t110 = true then ((lsa_within.f a0_1 1 1073741824).bind fun t111 => (if t111 = true then ((lsa_within.f a0_2 0 3600).bind fun t112 => (if t112 = true then (if (l0_4.length : Int) > 256 then (lsa_Valid.j0 k true a0_0 a0_1 a0_2 a0_3 l0_4 l0_5) else (lsa_Valid.j0 k (decide ((l0_5.length : Int) > 64)) a0_0 a0_1 a0_2 a0_3 l0_4 l0_5)) else (lsa_Valid.j0 k true a0_0 a0_1 a0_2 a0_3 l0_4 l0_5))) else (lsa_Valid.j0 k true a0_0 a0_1 a0_2 a0_3 l0_4 l0_5))) else (lsa_Valid.j0 k true a0_0 a0_1 a0_2 a0_3 l0_4 l0_5))
theorem lsa_Valid.mono_l : ∀ k, (∀ y0 y1 y2 y3 y4 y5 y6, LeO (lsa_Valid.j0 k y0 y1 y2 y3 y4 y5 y6) (lsa_Valid.j0 (k + 1) y0 y1 y2 y3 y4 y5 y6)) ∧ (∀ y0 y1 y2 y3 y4 y5 y6, LeO (lsa_Valid.j1 k y0 y1 y2 y3 y4 y5 y6) (lsa_Valid.j1 (k + 1) y0 y1 y2 y3 y4 y5 y6)) ∧ (∀ y0 y1 y2 y3 y4 y5 y6 y7 y8, LeO (lsa_Valid.l0 k y0 y1 y2 y3 y4 y5 y6 y7 y8) (lsa_Valid.l0 (k + 1) y0 y1 y2 y3 y4 y5 y6 y7 y8)) ∧ (∀ y0 y1 y2 y3 y4 y5 y6 y7 y8 y9, LeO (lsa_Valid.j3 k y0 y1 y2 y3 y4 y5 y6 y7 y8 y9) (lsa_Valid.j3 (k + 1) y0 y1 y2 y3 y4 y5 y6 y7 y8 y9)) ∧ (∀ y0 y1 y2 y3 y4 y5 y6 y7 y8, LeO (lsa_Valid.l1 k y0 y1 y2 y3 y4 y5 y6 y7 y8) (lsa_Valid.l1 (k + 1) y0 y1 y2 y3 y4 y5 y6 y7 y8)) ∧ (∀ y0 y1 y2 y3 y4 y5 y6 y7 y8 y9, LeO (lsa_Valid.j5 k y0 y1 y2 y3 y4 y5 y6 y7 y8 y9) (lsa_Valid.j5 (k + 1) y0 y1 y2 y3 y4 y5 y6 y7 y8 y9))
 | 0 => ⟨fun _ _ _ _ _ _ _ r h => by simp [lsa_Valid.j0] at h, fun _ _ _ _ _ _ _ r h => by simp [lsa_Valid.j1] at h, fun _ _ _ _ _ _ _ _ _ r h => by simp [lsa_Valid.l0] at h, fun _ _ _ _ _ _ _ _ _ _ r h => by simp [lsa_Valid.j3] at h, fun _ _ _ _ _ _ _ _ _ r h => by simp [lsa_Valid.l1] at h, fun _ _ _ _ _ _ _ _ _ _ r h => by simp [lsa_Valid.j5] at h⟩
 | k + 1 => by
  obtain ⟨ih0, ih1, ih2, ih3, ih4, ih5⟩ := lsa_Valid.mono_l k
  refine ⟨?_, ?_, ?_, ?_, ?_, ?_⟩
  ·intro y0 y1 y2 y3 y4 y5 y6
   unfold lsa_Valid.j0
   repeat' first
   | (with_reducible exact ih0 _ _ _ _ _ _ _)
   | (with_reducible exact ih1 _ _ _ _ _ _ _)
   | (with_reducible exact ih2 _ _ _ _ _ _ _ _ _)
   | (with_reducible exact ih3 _ _ _ _ _ _ _ _ _ _)
   | (with_reducible exact ih4 _ _ _ _ _ _ _ _ _)
   | (with_reducible exact ih5 _ _ _ _ _ _ _ _ _ _)
   | (with_reducible exact LeO.refl _)
   | (with_reducible exact LeO.none _)
   | (with_reducible refine LeO.ite ?_ ?_)
   | (with_reducible refine LeO.bind ?_ (fun _ => ?_))
   | exact ih0 _ _ _ _ _ _ _
   | exact ih1 _ _ _ _ _ _ _
   | exact ih2 _ _ _ _ _ _ _ _ _
   | exact ih3 _ _ _ _ _ _ _ _ _ _
   | exact ih4 _ _ _ _ _ _ _ _ _
   | exact ih5 _ _ _ _ _ _ _ _ _ _
   | exact LeO.none _
   | refine LeO.ite ?_ ?_
   | refine LeO.bind ?_ (fun _ => ?_)
  ·intro y0 y1 y2 y3 y4 y5 y6
   unfold lsa_Valid.j1
   repeat' first
   | (with_reducible exact ih0 _ _ _ _ _ _ _)
   | (with_reducible exact ih1 _ _ _ _ _ _ _)
   | (with_reducible exact ih2 _ _ _ _ _ _ _ _ _)
   | (with_reducible exact ih3 _ _ _ _ _ _ _ _ _ _)
   | (with_reducible exact ih4 _ _ _ _ _ _ _ _ _)
   | (with_reducible exact ih5 _ _ _ _ _ _ _ _ _ _)
   | (with_reducible exact LeO.refl _)
   | (with_reducible exact LeO.none _)
   | (with_reducible refine LeO.ite ?_ ?_)
   | (with_reducible refine LeO.bind ?_ (fun _ => ?_))
   | exact ih0 _ _ _ _ _ _ _
   | exact ih1 _ _ _ _ _ _ _
   | exact ih2 _ _ _ _ _ _ _ _ _
   | exact ih3 _ _ _ _ _ _ _ _ _ _
   | exact ih4 _ _ _ _ _ _ _ _ _
   | exact ih5 _ _ _ _ _ _ _ _ _ _
   | exact LeO.none _
   | refine LeO.ite ?_ ?_
   | refine LeO.bind ?_ (fun _ => ?_)
  ·intro y0 y1 y2 y3 y4 y5 y6 y7 y8
   unfold lsa_Valid.l0
   repeat' first
   | (with_reducible exact ih0 _ _ _ _ _ _ _)
   | (with_reducible exact ih1 _ _ _ _ _ _ _)
   | (with_reducible exact ih2 _ _ _ _ _ _ _ _ _)
   | (with_reducible exact ih3 _ _ _ _ _ _ _ _ _ _)
   | (with_reducible exact ih4 _ _ _ _ _ _ _ _ _)
   | (with_reducible exact ih5 _ _ _ _ _ _ _ _ _ _)
   | (with_reducible exact LeO.refl _)
   | (with_reducible exact LeO.none _)
   | (with_reducible refine LeO.ite ?_ ?_)
   | (with_reducible refine LeO.bind ?_ (fun _ => ?_))
   | exact ih0 _ _ _ _ _ _ _
   | exact ih1 _ _ _ _ _ _ _
   | exact ih2 _ _ _ _ _ _ _ _ _
   | exact ih3 _ _ _ _ _ _ _ _ _ _
   | exact ih4 _ _ _ _ _ _ _ _ _
   | exact ih5 _ _ _ _ _ _ _ _ _ _
   | exact LeO.none _
   | refine LeO.ite ?_ ?_
   | refine LeO.bind ?_ (fun _ => ?_)
  ·intro y0 y1 y2 y3 y4 y5 y6 y7 y8 y9
   unfold lsa_Valid.j3
   repeat' first
   | (with_reducible exact ih0 _ _ _ _ _ _ _)
   | (with_reducible exact ih1 _ _ _ _ _ _ _)
   | (with_reducible exact ih2 _ _ _ _ _ _ _ _ _)
   | (with_reducible exact ih3 _ _ _ _ _ _ _ _ _ _)
   | (with_reducible exact ih4 _ _ _ _ _ _ _ _ _)
   | (with_reducible exact ih5 _ _ _ _ _ _ _ _ _ _)
   | (with_reducible exact LeO.refl _)
   | (with_reducible exact LeO.none _)
   | (with_reducible refine LeO.ite ?_ ?_)
   | (with_reducible refine LeO.bind ?_ (fun _ => ?_))
   | exact ih0 _ _ _ _ _ _ _
   | exact ih1 _ _ _ _ _ _ _
   | exact ih2 _ _ _ _ _ _ _ _ _
   | exact ih3 _ _ _ _ _ _ _ _ _ _
   | exact ih4 _ _ _ _ _ _ _ _ _
   | exact ih5 _ _ _ _ _ _ _ _ _ _
   | exact LeO.none _
   | refine LeO.ite ?_ ?_
   | refine LeO.bind ?_ (fun _ => ?_)
  ·intro y0 y1 y2 y3 y4 y5 y6 y7 y8
   unfold lsa_Valid.l1
   repeat' first
   | (with_reducible exact ih0 _ _ _ _ _ _ _)
   | (with_reducible exact ih1 _ _ _ _ _ _ _)
   | (with_reducible exact ih2 _ _ _ _ _ _ _ _ _)
   | (with_reducible exact ih3 _ _ _ _ _ _ _ _ _ _)
   | (with_reducible exact ih4 _ _ _ _ _ _ _ _ _)
   | (with_reducible exact ih5 _ _ _ _ _ _ _ _ _ _)
   | (with_reducible exact LeO.refl _)
   | (with_reducible exact LeO.none _)
   | (with_reducible refine LeO.ite ?_ ?_)
   | (with_reducible refine LeO.bind ?_ (fun _ => ?_))
   | exact ih0 _ _ _ _ _ _ _
   | exact ih1 _ _ _ _ _ _ _
   | exact ih2 _ _ _ _ _ _ _ _ _
   | exact ih3 _ _ _ _ _ _ _ _ _ _
   | exact ih4 _ _ _ _ _ _ _ _ _
   | exact ih5 _ _ _ _ _ _ _ _ _ _
   | exact LeO.none _
   | refine LeO.ite ?_ ?_
   | refine LeO.bind ?_ (fun _ => ?_)
  ·intro y0 y1 y2 y3 y4 y5 y6 y7 y8 y9
   unfold lsa_Valid.j5
   repeat' first
   | (with_reducible exact ih0 _ _ _ _ _ _ _)
   | (with_reducible exact ih1 _ _ _ _ _ _ _)
   | (with_reducible exact ih2 _ _ _ _ _ _ _ _ _)
   | (with_reducible exact ih3 _ _ _ _ _ _ _ _ _ _)
   | (with_reducible exact ih4 _ _ _ _ _ _ _ _ _)
   | (with_reducible exact ih5 _ _ _ _ _ _ _ _ _ _)
   | (with_reducible exact LeO.refl _)
   | (with_reducible exact LeO.none _)
   | (with_reducible refine LeO.ite ?_ ?_)
   | (with_reducible refine LeO.bind ?_ (fun _ => ?_))
   | exact ih0 _ _ _ _ _ _ _
   | exact ih1 _ _ _ _ _ _ _
   | exact ih2 _ _ _ _ _ _ _ _ _
   | exact ih3 _ _ _ _ _ _ _ _ _ _
   | exact ih4 _ _ _ _ _ _ _ _ _
   | exact ih5 _ _ _ _ _ _ _ _ _ _
   | exact LeO.none _
   | refine LeO.ite ?_ ?_
   | refine LeO.bind ?_ (fun _ => ?_)
theorem lsa_Valid.mono : ∀ a0 a1 a2 a3 a4 a5 k, LeO (lsa_Valid.f k a0 a1 a2 a3 a4 a5) (lsa_Valid.f (k + 1) a0 a1 a2 a3 a4 a5) := by
 intro a0 a1 a2 a3 a4 a5 k
 obtain ⟨ih0, ih1, ih2, ih3, ih4, ih5⟩ := lsa_Valid.mono_l k
 unfold lsa_Valid.f
 repeat' first
   | (with_reducible exact ih0 _ _ _ _ _ _ _)
   | (with_reducible exact ih1 _ _ _ _ _ _ _)
   | (with_reducible exact ih2 _ _ _ _ _ _ _ _ _)
   | (with_reducible exact ih3 _ _ _ _ _ _ _ _ _ _)
   | (with_reducible exact ih4 _ _ _ _ _ _ _ _ _)
   | (with_reducible exact ih5 _ _ _ _ _ _ _ _ _ _)
   | (with_reducible exact LeO.refl _)
   | (with_reducible exact LeO.none _)
   | (with_reducible refine LeO.ite ?_ ?_)
   | (with_reducible refine LeO.bind ?_ (fun _ => ?_))
   | exact ih0 _ _ _ _ _ _ _
   | exact ih1 _ _ _ _ _ _ _
   | exact ih2 _ _ _ _ _ _ _ _ _
   | exact ih3 _ _ _ _ _ _ _ _ _ _
   | exact ih4 _ _ _ _ _ _ _ _ _
   | exact ih5 _ _ _ _ _ _ _ _ _ _
   | exact LeO.none _
   | refine LeO.ite ?_ ?_
   | refine LeO.bind ?_ (fun _ => ?_)
def lsa_Valid.T8 : Bool × List (List Nat × List Nat) := (true, [([], []), ([0], [0]), ([], []), ([1, 2], [1, 2]), ([3], [3]), ([4, 3], [4]), ([5], [5]), ([6, 5], [5, 6]), ([7, 5, 5], [5, 7]), ([8], [8]), ([9, 8], [8, 9]), ([8], [8]), ([11, 8], [8, 11]), ([10, 12, 8], [8, 10, 12]), ([13, 8], [8, 13]), ([14, 8], [8, 14]), ([8], [8]), ([16, 8], [8, 16]), ([15, 17, 8], [8, 15, 17]), ([8, 18, 5], [5, 8, 18]), ([5, 19], [5, 19])])
def lsa_Valid.B8 : List Nat := [0, 1, 0, 7, 15, 31, 63, 127, 255, 511, 1023, 511, 2559, 8191, 16383, 32767, 511, 66047, 262143, 524287, 1048575]
theorem lsa_Valid.tab8 : rtab .any (opsOf Try.f14 8) = lsa_Valid.T8 := by kernel_rfl
theorem lsa_Valid.bits8 : waitsOk lsa_Valid.T8.2 lsa_Valid.B8 = true := by kernel_rfl
def lsa_Valid.T14 : Bool × List (List Nat × List Nat) := (true, [([], []), ([0], [0]), ([1], [1]), ([2, 1], [2]), ([3], [3]), ([4, 3], [3, 4]), ([5, 3, 3], [3, 5]), ([6], [6]), ([7, 6], [6, 7]), ([6], [6]), ([9, 6], [6, 9]), ([8, 10, 6], [6, 8, 10]), ([11, 6], [6, 11]), ([6], [6]), ([12, 13, 6, 6], [6, 12, 13]), ([14, 6], [6, 14]), ([6, 15, 3], [3, 6, 15]), ([3, 16], [3, 16])])
def lsa_Valid.B14 : List Nat := [0, 1, 3, 7, 15, 31, 63, 127, 255, 127, 639, 2047, 4095, 127, 16383, 32767, 65535, 131071]
theorem lsa_Valid.tab14 : rtab .any (opsOf Try.f14 14) = lsa_Valid.T14 := by kernel_rfl
theorem lsa_Valid.bits14 : waitsOk lsa_Valid.T14.2 lsa_Valid.B14 = true := by kernel_rfl
set_option maxHeartbeats 8000000 in
set_option maxRecDepth 100000 in
theorem lsa_Valid.calls (k : Nat) (a0_0 : Int) (a0_1 : Int) (a0_2 : Int) (a0_3 : Bool) (A0_4 : Option Addr) (c0_4 : Nat) (l0_4 : List (S43)) (A0_5 : Option Addr) (c0_5 : Nat) (l0_5 : List (S56)) (r : Bool) (w : World) (hr0_4 : Kd.C k43 w A0_4 l0_4.length l0_4) (hc0_4 : l0_4.length ≤ c0_4) (hr0_5 : Kd.C k56 w A0_5 l0_5.length l0_5) (hc0_5 : l0_5.length ≤ c0_5) (h : lsa_Valid.f k a0_0 a0_1 a0_2 a0_3 l0_4 l0_5 = some r) :
  Calls Try.prog 14 #[.agg #[.int .i64 a0_0, .int .i64 a0_1, .int .i64 a0_2, .bool a0_3, .slice A0_4 l0_4.length c0_4, .slice A0_5 l0_5.length c0_5]] w fun e w' => e = .returned (.bool r) ∧ Below w.heap.size w w' := by
 have hu25 := Try.underlying25
 have hu43 := Try.underlying43
 have hu56 := Try.underlying56
 have HR0_4 := Aside0.mk hr0_4
 have HC0_4 := Aside0.mk hc0_4
 clear hr0_4 hc0_4
 have HR0_5 := Aside0.mk hr0_5
 have HC0_5 := Aside0.mk hc0_5
 clear hr0_5 hc0_5
 have HB := Aside0.mk (Below.refl w.heap.size w)
 have H : ((lsa_within.f a0_0 0 63).bind fun t110 => (if t110 = true then ((lsa_within.f a0_1 1 1073741824).bind fun t111 => (if t111 = true then ((lsa_within.f a0_2 0 3600).bind fun t112 => (if t112 = true then (if (l0_4.length : Int) > 256 then (lsa_Valid.j0 k true a0_0 a0_1 a0_2 a0_3 l0_4 l0_5) else (lsa_Valid.j0 k (decide ((l0_5.length : Int) > 64)) a0_0 a0_1 a0_2 a0_3 l0_4 l0_5)) else (lsa_Valid.j0 k true a0_0 a0_1 a0_2 a0_3 l0_4 l0_5))) else (lsa_Valid.j0 k true a0_0 a0_1 a0_2 a0_3 l0_4 l0_5))) else (lsa_Valid.j0 k true a0_0 a0_1 a0_2 a0_3 l0_4 l0_5))) = some r := h
 clear h
 have HC2 := Aside0.mk H
 clear H
 go_enter Try.func14, Try.ntmps14
 go_upto_region 1 with (first | ((with_reducible refine gate_dst (N := 1) rfl ?_); (try (refine gate_guard (by rfl) ?_; dsimp only)); refine box_event ?hg (N := 1) ?hd (cs := #[.int .i64 a0_0, .int .i64 a0_1, .int .i64 a0_2, .bool a0_3, .slice A0_4 l0_4.length c0_4, .slice A0_5 l0_5.length c0_5]) (t := 25) ?hr ?_; (case hd => rfl); (case hg => rfl); (case hr => first | (go_simp; done) | (go_simp; rfl)); intro gb109 hg w3 hbox hb; have BK109 := Aside0.mk (hbox); have GW109 := gs_ HB hg; have GE109 := gs_ HB hg; replace HB := bs_ HB hb; clear hb hbox hg))
 (try simp only [Act.put, List.setIfInBounds_toArray, List.set_cons_zero, List.set_cons_succ])
 go_cut [34] (fun v34 wc => ∃ (kq : Nat) (x34_1 : Bool), v34 = .bool x34_1 ∧ Aside0 (lsa_Valid.j0 kq x34_1 a0_0 a0_1 a0_2 a0_3 l0_4 l0_5 = some r) ∧ Aside0 (kq ≤ k) ∧ Aside0 (wc.heap[gb109]? = some (.cells #[.int .i64 a0_0, .int .i64 a0_1, .int .i64 a0_2, .bool a0_3, (.slice A0_4 l0_4.length c0_4), (.slice A0_5 l0_5.length c0_5)] 25 (0, 0))) ∧ Aside0 (Below w.heap.size w wc))
 case first =>
  have H := HC2.out
  clear HC2
  replace H := Option.bind_eq_some_iff.mp H
  obtain ⟨t110, A40, H⟩ := H
  replace H : (if t110 = true then ((lsa_within.f a0_1 1 1073741824).bind fun t111 => (if t111 = true then ((lsa_within.f a0_2 0 3600).bind fun t112 => (if t112 = true then (if (l0_4.length : Int) > 256 then (lsa_Valid.j0 k true a0_0 a0_1 a0_2 a0_3 l0_4 l0_5) else (lsa_Valid.j0 k (decide ((l0_5.length : Int) > 64)) a0_0 a0_1 a0_2 a0_3 l0_4 l0_5)) else (lsa_Valid.j0 k true a0_0 a0_1 a0_2 a0_3 l0_4 l0_5))) else (lsa_Valid.j0 k true a0_0 a0_1 a0_2 a0_3 l0_4 l0_5))) else (lsa_Valid.j0 k true a0_0 a0_1 a0_2 a0_3 l0_4 l0_5)) = some r := H
  have A4 := Aside0.mk A40
  clear A40
  by_cases c5 : t110 = true
  ·subst c5
   have H1 : ((lsa_within.f a0_1 1 1073741824).bind fun t111 => (if t111 = true then ((lsa_within.f a0_2 0 3600).bind fun t112 => (if t112 = true then (if (l0_4.length : Int) > 256 then (lsa_Valid.j0 k true a0_0 a0_1 a0_2 a0_3 l0_4 l0_5) else (lsa_Valid.j0 k (decide ((l0_5.length : Int) > 64)) a0_0 a0_1 a0_2 a0_3 l0_4 l0_5)) else (lsa_Valid.j0 k true a0_0 a0_1 a0_2 a0_3 l0_4 l0_5))) else (lsa_Valid.j0 k true a0_0 a0_1 a0_2 a0_3 l0_4 l0_5))) = some r := by rw [if_pos rfl] at H; exact H
   clear H
   have H := H1
   clear H1
   replace H := Option.bind_eq_some_iff.mp H
   obtain ⟨t111, A60, H⟩ := H
   replace H : (if t111 = true then ((lsa_within.f a0_2 0 3600).bind fun t112 => (if t112 = true then (if (l0_4.length : Int) > 256 then (lsa_Valid.j0 k true a0_0 a0_1 a0_2 a0_3 l0_4 l0_5) else (lsa_Valid.j0 k (decide ((l0_5.length : Int) > 64)) a0_0 a0_1 a0_2 a0_3 l0_4 l0_5)) else (lsa_Valid.j0 k true a0_0 a0_1 a0_2 a0_3 l0_4 l0_5))) else (lsa_Valid.j0 k true a0_0 a0_1 a0_2 a0_3 l0_4 l0_5)) = some r := H
   have A6 := Aside0.mk A60
   clear A60
   by_cases c7 : t111 = true
   ·subst c7
    have H1 : ((lsa_within.f a0_2 0 3600).bind fun t112 => (if t112 = true then (if (l0_4.length : Int) > 256 then (lsa_Valid.j0 k true a0_0 a0_1 a0_2 a0_3 l0_4 l0_5) else (lsa_Valid.j0 k (decide ((l0_5.length : Int) > 64)) a0_0 a0_1 a0_2 a0_3 l0_4 l0_5)) else (lsa_Valid.j0 k true a0_0 a0_1 a0_2 a0_3 l0_4 l0_5))) = some r := by rw [if_pos rfl] at H; exact H
    clear H
    have H := H1
    clear H1
    replace H := Option.bind_eq_some_iff.mp H
    obtain ⟨t112, A80, H⟩ := H
    replace H : (if t112 = true then (if (l0_4.length : Int) > 256 then (lsa_Valid.j0 k true a0_0 a0_1 a0_2 a0_3 l0_4 l0_5) else (lsa_Valid.j0 k (decide ((l0_5.length : Int) > 64)) a0_0 a0_1 a0_2 a0_3 l0_4 l0_5)) else (lsa_Valid.j0 k true a0_0 a0_1 a0_2 a0_3 l0_4 l0_5)) = some r := H
    have A8 := Aside0.mk A80
    clear A80
    by_cases c9 : t112 = true
    ·subst c9
     have H1 : (if (l0_4.length : Int) > 256 then (lsa_Valid.j0 k true a0_0 a0_1 a0_2 a0_3 l0_4 l0_5) else (lsa_Valid.j0 k (decide ((l0_5.length : Int) > 64)) a0_0 a0_1 a0_2 a0_3 l0_4 l0_5)) = some r := by rw [if_pos rfl] at H; exact H
     clear H
     have H := H1
     clear H1
     by_cases c10 : (l0_4.length : Int) > 256
     ·rw [if_pos c10] at H
      have c10b0 : decide (256 < (l0_4.length : Int)) = true := decide_eq_true c10
      have c10b1 : decide (256 < l0_4.length) = true := decide_eq_true (by omega)
      clear c10
      (first | rw [c10b0] | (simp only [i64_w, i32_w]; rw [c10b0]) | skip)
      have H' := Aside0.mk H
      clear H
      obtain ⟨hcz11_0, hcz11_1, hcz11_2, hcz11_3, hcz11_4, hcz11_5, hfz11_0, hfz11_1, hfz11_2, hfz11_3, hfz11_4, hfz11_5⟩ := c6_ BK109
      go_wp2_with (first | ((with_reducible refine gate_callee (f := 29) rfl ?_); refine goesL_ (some 9) rfl rfl Try.func29 (by kernel_rfl) rfl #[.int .i64 a0_0, .int .i64 0, .int .i64 63] rfl (by (try simp only [List.map_toArray, List.map_cons, List.map_nil]); first | done | rfl | (simp only [List.length_drop, List.length_take]; rfl)) ?_; (with_reducible refine (lsa_within.calls a0_0 0 63 true _ A4.out).mono ?_); rintro e w' ⟨rfl, ⟨nd, rfl⟩⟩; refine ⟨_, rfl, ?_⟩) | (go_at_call 29; (with_reducible refine (lsa_within.calls a0_1 1 1073741824 true _ A6.out).mono ?_); rintro e w' ⟨rfl, ⟨nd, rfl⟩⟩) | (go_at_call 29; (with_reducible refine (lsa_within.calls a0_2 0 3600 true _ A8.out).mono ?_); rintro e w' ⟨rfl, ⟨nd, rfl⟩⟩))
      go_meet
      case rel => exact ⟨_, (true), (by first | rfl | (simp; done) | (simp [*]; done)), H', ⟨by first | omega | exact Nat.le_refl _⟩, ⟨kb_ BK109⟩, ⟨by repeat (first | (with_reducible first | exact HB.out | apply bU | apply bS GE109.out) | exact HB.out)⟩⟩
     ·rw [if_neg c10] at H
      have c10b0 : decide (256 < (l0_4.length : Int)) = false := decide_eq_false c10
      have c10b1 : decide (256 < l0_4.length) = false := decide_eq_false (by omega)
      clear c10
      (first | rw [c10b0] | (simp only [i64_w, i32_w]; rw [c10b0]) | skip)
      have H' := Aside0.mk H
      clear H
      obtain ⟨hcz12_0, hcz12_1, hcz12_2, hcz12_3, hcz12_4, hcz12_5, hfz12_0, hfz12_1, hfz12_2, hfz12_3, hfz12_4, hfz12_5⟩ := c6_ BK109
      go_wp2_with (first | ((with_reducible refine gate_callee (f := 29) rfl ?_); refine goesL_ (some 9) rfl rfl Try.func29 (by kernel_rfl) rfl #[.int .i64 a0_0, .int .i64 0, .int .i64 63] rfl (by (try simp only [List.map_toArray, List.map_cons, List.map_nil]); first | done | rfl | (simp only [List.length_drop, List.length_take]; rfl)) ?_; (with_reducible refine (lsa_within.calls a0_0 0 63 true _ A4.out).mono ?_); rintro e w' ⟨rfl, ⟨nd, rfl⟩⟩; refine ⟨_, rfl, ?_⟩) | (go_at_call 29; (with_reducible refine (lsa_within.calls a0_1 1 1073741824 true _ A6.out).mono ?_); rintro e w' ⟨rfl, ⟨nd, rfl⟩⟩) | (go_at_call 29; (with_reducible refine (lsa_within.calls a0_2 0 3600 true _ A8.out).mono ?_); rintro e w' ⟨rfl, ⟨nd, rfl⟩⟩))
      go_meet
      case rel => exact ⟨_, (decide ((l0_5.length : Int) > 64)), (by first | rfl | (simp; done) | (simp [*]; done)), H', ⟨by first | omega | exact Nat.le_refl _⟩, ⟨kb_ BK109⟩, ⟨by repeat (first | (with_reducible first | exact HB.out | apply bU | apply bS GE109.out) | exact HB.out)⟩⟩
    ·replace c9 := Bool.eq_false_iff.mpr c9
     subst c9
     have H1 : (lsa_Valid.j0 k true a0_0 a0_1 a0_2 a0_3 l0_4 l0_5) = some r := by rw [if_neg (show ¬ (false = true) by decide)] at H; exact H
     clear H
     have H := H1
     clear H1
     have H' := Aside0.mk H
     clear H
     obtain ⟨hcz13_0, hcz13_1, hcz13_2, hcz13_3, hcz13_4, hcz13_5, hfz13_0, hfz13_1, hfz13_2, hfz13_3, hfz13_4, hfz13_5⟩ := c6_ BK109
     go_wp2_with (first | ((with_reducible refine gate_callee (f := 29) rfl ?_); refine goesL_ (some 9) rfl rfl Try.func29 (by kernel_rfl) rfl #[.int .i64 a0_0, .int .i64 0, .int .i64 63] rfl (by (try simp only [List.map_toArray, List.map_cons, List.map_nil]); first | done | rfl | (simp only [List.length_drop, List.length_take]; rfl)) ?_; (with_reducible refine (lsa_within.calls a0_0 0 63 true _ A4.out).mono ?_); rintro e w' ⟨rfl, ⟨nd, rfl⟩⟩; refine ⟨_, rfl, ?_⟩) | (go_at_call 29; (with_reducible refine (lsa_within.calls a0_1 1 1073741824 true _ A6.out).mono ?_); rintro e w' ⟨rfl, ⟨nd, rfl⟩⟩) | (go_at_call 29; (with_reducible refine (lsa_within.calls a0_2 0 3600 false _ A8.out).mono ?_); rintro e w' ⟨rfl, ⟨nd, rfl⟩⟩))
     go_meet
     case rel => exact ⟨_, (true), (by first | rfl | (simp; done) | (simp [*]; done)), H', ⟨by first | omega | exact Nat.le_refl _⟩, ⟨kb_ BK109⟩, ⟨by repeat (first | (with_reducible first | exact HB.out | apply bU | apply bS GE109.out) | exact HB.out)⟩⟩
   ·replace c7 := Bool.eq_false_iff.mpr c7
    subst c7
    have H1 : (lsa_Valid.j0 k true a0_0 a0_1 a0_2 a0_3 l0_4 l0_5) = some r := by rw [if_neg (show ¬ (false = true) by decide)] at H; exact H
    clear H
    have H := H1
    clear H1
    have H' := Aside0.mk H
    clear H
    obtain ⟨hcz14_0, hcz14_1, hcz14_2, hcz14_3, hcz14_4, hcz14_5, hfz14_0, hfz14_1, hfz14_2, hfz14_3, hfz14_4, hfz14_5⟩ := c6_ BK109
    go_wp2_with (first | ((with_reducible refine gate_callee (f := 29) rfl ?_); refine goesL_ (some 9) rfl rfl Try.func29 (by kernel_rfl) rfl #[.int .i64 a0_0, .int .i64 0, .int .i64 63] rfl (by (try simp only [List.map_toArray, List.map_cons, List.map_nil]); first | done | rfl | (simp only [List.length_drop, List.length_take]; rfl)) ?_; (with_reducible refine (lsa_within.calls a0_0 0 63 true _ A4.out).mono ?_); rintro e w' ⟨rfl, ⟨nd, rfl⟩⟩; refine ⟨_, rfl, ?_⟩) | (go_at_call 29; (with_reducible refine (lsa_within.calls a0_1 1 1073741824 false _ A6.out).mono ?_); rintro e w' ⟨rfl, ⟨nd, rfl⟩⟩))
    go_meet
    case rel => exact ⟨_, (true), (by first | rfl | (simp; done) | (simp [*]; done)), H', ⟨by first | omega | exact Nat.le_refl _⟩, ⟨kb_ BK109⟩, ⟨by repeat (first | (with_reducible first | exact HB.out | apply bU | apply bS GE109.out) | exact HB.out)⟩⟩
  ·replace c5 := Bool.eq_false_iff.mpr c5
   subst c5
   have H1 : (lsa_Valid.j0 k true a0_0 a0_1 a0_2 a0_3 l0_4 l0_5) = some r := by rw [if_neg (show ¬ (false = true) by decide)] at H; exact H
   clear H
   have H := H1
   clear H1
   have H' := Aside0.mk H
   clear H
   obtain ⟨hcz15_0, hcz15_1, hcz15_2, hcz15_3, hcz15_4, hcz15_5, hfz15_0, hfz15_1, hfz15_2, hfz15_3, hfz15_4, hfz15_5⟩ := c6_ BK109
   go_wp2_with (first | ((with_reducible refine gate_callee (f := 29) rfl ?_); refine goesL_ (some 9) rfl rfl Try.func29 (by kernel_rfl) rfl #[.int .i64 a0_0, .int .i64 0, .int .i64 63] rfl (by (try simp only [List.map_toArray, List.map_cons, List.map_nil]); first | done | rfl | (simp only [List.length_drop, List.length_take]; rfl)) ?_; (with_reducible refine (lsa_within.calls a0_0 0 63 false _ A4.out).mono ?_); rintro e w' ⟨rfl, ⟨nd, rfl⟩⟩; refine ⟨_, rfl, ?_⟩))
   go_meet
   case rel => exact ⟨_, (true), (by first | rfl | (simp; done) | (simp [*]; done)), H', ⟨by first | omega | exact Nat.le_refl _⟩, ⟨kb_ BK109⟩, ⟨by repeat (first | (with_reducible first | exact HB.out | apply bU | apply bS GE109.out) | exact HB.out)⟩⟩
 case rest =>
  clear HC2
  obtain ⟨kq, x34_1, rfl, HA, HJ1, BK109, HB⟩ := hcut
  cases kq with
  | zero => exact absurd HA.out (by simp [lsa_Valid.j0])
  | succ kj1 =>
   have H := HA.out
   clear HA
   simp only [lsa_Valid.j0] at H
   by_cases c16 : x34_1 = true
   ·subst c16
    have H1 : (some false) = some r := by rw [if_pos rfl] at H; exact H
    clear H
    have H := H1
    clear H1
    obtain rfl := Option.some.inj H
    go_wp2
    go_ret
    exact ⟨by first | rfl | (simp [errW_none, errW_some] <;> rfl) | (simp [*, errW_none, errW_some] <;> rfl), by repeat (first | (with_reducible first | exact HB.out | apply bU | apply bS GE109.out) | exact HB.out)⟩
   ·replace c16 := Bool.eq_false_iff.mpr c16
    subst c16
    have H1 : (if a0_2 = 3600 then (if a0_3 = true then (lsa_Valid.j1 kj1 true a0_0 a0_1 a0_2 a0_3 l0_4 l0_5) else (if (l0_4.length : Int) > 0 then (lsa_Valid.j1 kj1 true a0_0 a0_1 a0_2 a0_3 l0_4 l0_5) else (lsa_Valid.j1 kj1 (decide ((l0_5.length : Int) > 0)) a0_0 a0_1 a0_2 a0_3 l0_4 l0_5))) else (lsa_Valid.j1 kj1 false a0_0 a0_1 a0_2 a0_3 l0_4 l0_5)) = some r := by rw [if_neg (show ¬ (false = true) by decide)] at H; exact H
    clear H
    have H := H1
    clear H1
    have HC17 := Aside0.mk H
    clear H
    go_upto_region 3 with (fail)
    go_cut [53] (fun v53 wc => ∃ (kq : Nat) (x53_16 : Bool), v53 = .bool x53_16 ∧ Aside0 (lsa_Valid.j1 kq x53_16 a0_0 a0_1 a0_2 a0_3 l0_4 l0_5 = some r) ∧ Aside0 (kq ≤ kj1) ∧ Aside0 (wc.heap[gb109]? = some (.cells #[.int .i64 a0_0, .int .i64 a0_1, .int .i64 a0_2, .bool a0_3, (.slice A0_4 l0_4.length c0_4), (.slice A0_5 l0_5.length c0_5)] 25 (0, 0))) ∧ Aside0 (Below w.heap.size w wc))
    case first =>
     have H := HC17.out
     clear HC17
     by_cases c18 : a0_2 = 3600
     ·rw [if_pos c18] at H
      have c18b0 : (a0_2 == 3600) = true := beq_iff_eq.mpr c18
      have c18b1 : (a0_2 != 3600) = false := bne_eq_false_iff_eq.mpr c18
      clear c18
      (first | rw [c18b0] | (simp only [i64_w, i32_w]; rw [c18b0]) | skip)
      by_cases c19 : a0_3 = true
      ·subst c19
       have H1 : (lsa_Valid.j1 kj1 true a0_0 a0_1 a0_2 true l0_4 l0_5) = some r := by rw [if_pos rfl] at H; exact H
       clear H
       have H := H1
       clear H1
       have H' := Aside0.mk H
       clear H
       obtain ⟨hcz20_0, hcz20_1, hcz20_2, hcz20_3, hcz20_4, hcz20_5, hfz20_0, hfz20_1, hfz20_2, hfz20_3, hfz20_4, hfz20_5⟩ := c6_ BK109
       go_wp2
       go_meet
       case rel => exact ⟨_, (true), (by first | rfl | (simp; done) | (simp [*]; done)), H', ⟨by have := HJ1.out; first | omega | exact Nat.le_refl _⟩, ⟨kb_ BK109⟩, ⟨by repeat (first | (with_reducible first | exact HB.out | apply bU | apply bS GE109.out) | exact HB.out)⟩⟩
      ·replace c19 := Bool.eq_false_iff.mpr c19
       subst c19
       have H1 : (if (l0_4.length : Int) > 0 then (lsa_Valid.j1 kj1 true a0_0 a0_1 a0_2 false l0_4 l0_5) else (lsa_Valid.j1 kj1 (decide ((l0_5.length : Int) > 0)) a0_0 a0_1 a0_2 false l0_4 l0_5)) = some r := by rw [if_neg (show ¬ (false = true) by decide)] at H; exact H
       clear H
       have H := H1
       clear H1
       by_cases c21 : (l0_4.length : Int) > 0
       ·rw [if_pos c21] at H
        have c21b0 : decide (0 < (l0_4.length : Int)) = true := decide_eq_true c21
        have c21b1 : decide (0 < l0_4.length) = true := decide_eq_true (by omega)
        clear c21
        have H' := Aside0.mk H
        clear H
        obtain ⟨hcz22_0, hcz22_1, hcz22_2, hcz22_3, hcz22_4, hcz22_5, hfz22_0, hfz22_1, hfz22_2, hfz22_3, hfz22_4, hfz22_5⟩ := c6_ BK109
        go_wp2
        go_meet
        case rel => exact ⟨_, (true), (by first | rfl | (simp; done) | (simp [*]; done)), H', ⟨by have := HJ1.out; first | omega | exact Nat.le_refl _⟩, ⟨kb_ BK109⟩, ⟨by repeat (first | (with_reducible first | exact HB.out | apply bU | apply bS GE109.out) | exact HB.out)⟩⟩
       ·rw [if_neg c21] at H
        have c21b0 : decide (0 < (l0_4.length : Int)) = false := decide_eq_false c21
        have c21b1 : decide (0 < l0_4.length) = false := decide_eq_false (by omega)
        clear c21
        have H' := Aside0.mk H
        clear H
        obtain ⟨hcz23_0, hcz23_1, hcz23_2, hcz23_3, hcz23_4, hcz23_5, hfz23_0, hfz23_1, hfz23_2, hfz23_3, hfz23_4, hfz23_5⟩ := c6_ BK109
        go_wp2
        go_meet
        case rel => exact ⟨_, (decide ((l0_5.length : Int) > 0)), (by first | rfl | (simp; done) | (simp [*]; done)), H', ⟨by have := HJ1.out; first | omega | exact Nat.le_refl _⟩, ⟨kb_ BK109⟩, ⟨by repeat (first | (with_reducible first | exact HB.out | apply bU | apply bS GE109.out) | exact HB.out)⟩⟩
     ·rw [if_neg c18] at H
      have c18b0 : (a0_2 == 3600) = false := beq_eq_false_iff_ne.mpr c18
      have c18b1 : (a0_2 != 3600) = true := bne_iff_ne.mpr c18
      (first | rw [c18b0] | (simp only [i64_w, i32_w]; rw [c18b0]) | skip)
      have H' := Aside0.mk H
      clear H
      obtain ⟨hcz24_0, hcz24_1, hcz24_2, hcz24_3, hcz24_4, hcz24_5, hfz24_0, hfz24_1, hfz24_2, hfz24_3, hfz24_4, hfz24_5⟩ := c6_ BK109
      go_wp2
      go_meet
      case rel => exact ⟨_, (false), (by first | rfl | (simp; done) | (simp [*]; done)), H', ⟨by have := HJ1.out; first | omega | exact Nat.le_refl _⟩, ⟨kb_ BK109⟩, ⟨by repeat (first | (with_reducible first | exact HB.out | apply bU | apply bS GE109.out) | exact HB.out)⟩⟩
    case rest =>
     clear HC17
     (try clear c16)
     obtain ⟨kq, x53_16, rfl, HA, HJ16, BK109, HB⟩ := hcut
     cases kq with
     | zero => exact absurd HA.out (by simp [lsa_Valid.j1])
     | succ kj16 =>
      have H := HA.out
      clear HA
      simp only [lsa_Valid.j1] at H
      by_cases c25 : x53_16 = true
      ·subst c25
       have H1 : (some false) = some r := by rw [if_pos rfl] at H; exact H
       clear H
       have H := H1
       clear H1
       obtain rfl := Option.some.inj H
       go_wp2
       go_ret
       exact ⟨by first | rfl | (simp [errW_none, errW_some] <;> rfl) | (simp [*, errW_none, errW_some] <;> rfl), by repeat (first | (with_reducible first | exact HB.out | apply bU | apply bS GE109.out) | exact HB.out)⟩
      ·replace c25 := Bool.eq_false_iff.mpr c25
       subst c25
       have H1 : (lsa_Valid.l0 kj16 l0_4 (l0_4.length : Int) 0 a0_0 a0_1 a0_2 a0_3 l0_4 l0_5) = some r := by rw [if_neg (show ¬ (false = true) by decide)] at H; exact H
       clear H
       have H := H1
       clear H1
       have H' := Aside0.mk H
       clear H
       obtain ⟨hcz26_0, hcz26_1, hcz26_2, hcz26_3, hcz26_4, hcz26_5, hfz26_0, hfz26_1, hfz26_2, hfz26_3, hfz26_4, hfz26_5⟩ := c6_ BK109
       go_wp2
       go_loopg [57] kj16 (fun kq v57 w' => ∃ (x57_3 : Int), v57 = .int .i64 x57_3 ∧ Aside0 (lsa_Valid.l0 kq l0_4 (l0_4.length : Int) x57_3 a0_0 a0_1 a0_2 a0_3 l0_4 l0_5 = some r) ∧ Aside0 (kq ≤ kj16) ∧ Aside0 (w'.heap[gb109]? = some (.cells #[.int .i64 a0_0, .int .i64 a0_1, .int .i64 a0_2, .bool a0_3, (.slice A0_4 l0_4.length c0_4), (.slice A0_5 l0_5.length c0_5)] 25 (0, 0))) ∧ Aside0 (Below w.heap.size w w'))
       case atStart => exact ⟨(0), (by first | rfl | (simp; done) | (simp [*]; done)), H', ⟨Nat.le_refl _⟩, ⟨kb_ BK109⟩, ⟨by repeat (first | (with_reducible first | exact HB.out | apply bU | apply bS GE109.out) | exact HB.out)⟩⟩
       case round =>
        clear H'
        (try clear c16); (try clear c25); (try clear hcz26_0); (try clear hcz26_1); (try clear hcz26_2); (try clear hcz26_3); (try clear hcz26_4); (try clear hcz26_5); (try clear hfz26_0); (try clear hfz26_1); (try clear hfz26_2); (try clear hfz26_3); (try clear hfz26_4); (try clear hfz26_5)
        obtain ⟨x57_3, rfl, HA, HK3, BK109, HB⟩ := hrel
        cases gk with
        | zero => exact absurd HA.out (by simp [lsa_Valid.l0])
        | succ k3 =>
         have H := HA.out
         clear HA
         simp only [lsa_Valid.l0] at H
         by_cases c27 : x57_3 < (l0_4.length : Int)
         ·rw [if_pos c27] at H
          have c27b0 : decide (x57_3 < (l0_4.length : Int)) = true := decide_eq_true c27
          clear c27
          by_cases c28 : 0 ≤ x57_3
          ·rw [if_pos c28] at H
           have c28b0 : decide (0 ≤ x57_3) = true := decide_eq_true c28
           clear c28
           by_cases c29 : x57_3 < (l0_4.length : Int)
           ·rw [if_pos c29] at H
            have c29b0 : decide (x57_3 < (l0_4.length : Int)) = true := decide_eq_true c29
            clear c29
            have HC30 := Aside0.mk H
            clear H
            have p113 : 0 ≤ (x57_3 : Int) := of_decide_eq_true (by first | (with_reducible assumption) | assumption)
            have q113 : x57_3 < (l0_4.length : Int) := of_decide_eq_true (by first | (with_reducible assumption) | assumption)
            obtain ⟨ad113, e113, hx113_0, hx113_1, hx113_2⟩ := at_T43 HR0_4.out x57_3 p113 q113
            cases e113
            replace hx113_0 := (HB.out.cell (World.block_lt_of_cell? w _ hx113_0)).trans hx113_0
            replace hx113_1 := (HB.out.cell (World.block_lt_of_cell? w _ hx113_1)).trans hx113_1
            replace hx113_2 := (HB.out.cell (World.block_lt_of_cell? w _ hx113_2)).trans hx113_2
            replace p113 := eq_true p113
            replace q113 := eq_true q113
            go_upto_region 8 with (first | ((with_reducible refine gate_dst (N := 4) rfl ?_); (try (refine gate_guard (by rfl) ?_; dsimp only)); refine box_event ?hg (N := 4) ?hd (cs := #[.int .i64 0, .int .i64 0, .int .i64 0]) (t := 43) ?hr ?_; (case hd => rfl); (case hg => rfl); (case hr => first | (go_simp; done) | (go_simp; rfl)); intro gb114 hg w31 hbox hb; have BK114 := Aside0.mk (hbox); have GW114 := Aside0.mk ((by rw [hg]; exact (below_size (by repeat (first | (with_reducible first | exact HB.out | apply bU | apply bS GE109.out) | exact HB.out))) : w.heap.size ≤ gb114)); have GE114 := Aside0.mk ((by rw [hg]; exact (below_size (by repeat (first | (with_reducible first | exact HB.out | apply bU | apply bS GE109.out) | exact HB.out))) : w.heap.size ≤ gb114)); have NB109_114 := nl_ BK109 hg; have NB114_109 := ng_ BK109 hg; replace BK109 := bb_ BK109 hb; replace HB := Aside0.mk (below_step (by repeat (first | (with_reducible first | exact HB.out | apply bU | apply bS GE109.out) | exact HB.out)) hb); clear hb hbox hg; have hnb32 := NB114_109.out; have hnc32 := NB109_114.out; obtain ⟨hcz33_0, hcz33_1, hcz33_2, hfz33_0, hfz33_1, hfz33_2⟩ := c3_ BK114))
            (try simp only [Act.put, List.setIfInBounds_toArray, List.set_cons_zero, List.set_cons_succ])
            go_cut [82] (fun v82 wc => ∃ (kq : Nat) (x82_29 : Bool), v82 = .bool x82_29 ∧ Aside0 (lsa_Valid.j3 kq l0_4 (l0_4.length : Int) x57_3 x82_29 a0_0 a0_1 a0_2 a0_3 l0_4 l0_5 = some r) ∧ Aside0 (kq ≤ k3) ∧ Aside0 (wc.heap[gb109]? = some (.cells #[.int .i64 a0_0, .int .i64 a0_1, .int .i64 a0_2, .bool a0_3, (.slice (some ad113) l0_4.length c0_4), (.slice A0_5 l0_5.length c0_5)] 25 (0, 0))) ∧ Aside0 (wc.heap[gb114]? = some (.cells #[.int .i64 ((rd_T43 l0_4 x57_3).f0), .int .i64 ((rd_T43 l0_4 x57_3).f1), .int .i64 ((rd_T43 l0_4 x57_3).f2)] 43 (0, 0))) ∧ Aside0 (Below w.heap.size w wc))
            case first =>
             have H := HC30.out
             clear HC30
             replace H := Option.bind_eq_some_iff.mp H
             obtain ⟨t115, A340, H⟩ := H
             replace H : (if t115 = true then (if x57_3 > 0 then (if 0 ≤ (wrap64 (x57_3 - 1)) then (if (wrap64 (x57_3 - 1)) < (l0_4.length : Int) then (lsa_Valid.j3 k3 l0_4 (l0_4.length : Int) x57_3 (decide (((rd_T43 l0_4 (wrap64 (x57_3 - 1))).f1) ≥ ((rd_T43 l0_4 x57_3).f1))) a0_0 a0_1 a0_2 a0_3 l0_4 l0_5) else (none)) else (none)) else (lsa_Valid.j3 k3 l0_4 (l0_4.length : Int) x57_3 false a0_0 a0_1 a0_2 a0_3 l0_4 l0_5)) else (lsa_Valid.j3 k3 l0_4 (l0_4.length : Int) x57_3 true a0_0 a0_1 a0_2 a0_3 l0_4 l0_5)) = some r := H
             have A34 := Aside0.mk A340
             clear A340
             by_cases c35 : t115 = true
             ·subst c35
              have H1 : (if x57_3 > 0 then (if 0 ≤ (wrap64 (x57_3 - 1)) then (if (wrap64 (x57_3 - 1)) < (l0_4.length : Int) then (lsa_Valid.j3 k3 l0_4 (l0_4.length : Int) x57_3 (decide (((rd_T43 l0_4 (wrap64 (x57_3 - 1))).f1) ≥ ((rd_T43 l0_4 x57_3).f1))) a0_0 a0_1 a0_2 a0_3 l0_4 l0_5) else (none)) else (none)) else (lsa_Valid.j3 k3 l0_4 (l0_4.length : Int) x57_3 false a0_0 a0_1 a0_2 a0_3 l0_4 l0_5)) = some r := by rw [if_pos rfl] at H; exact H
              clear H
              have H := H1
              clear H1
              by_cases c36 : x57_3 > 0
              ·rw [if_pos c36] at H
               have c36b0 : decide (0 < x57_3) = true := decide_eq_true c36
               clear c36
               (first | rw [c36b0] | (simp only [i64_w, i32_w]; rw [c36b0]) | skip)
               obtain ⟨ji37, hji37⟩ : ∃ j_ : Int, (wrap64 (x57_3 - 1)) = j_ := ⟨_, rfl⟩
               replace H : (if 0 ≤ (ji37) then (if (ji37) < (l0_4.length : Int) then (lsa_Valid.j3 k3 l0_4 (l0_4.length : Int) x57_3 (decide (((rd_T43 l0_4 (ji37)).f1) ≥ ((rd_T43 l0_4 x57_3).f1))) a0_0 a0_1 a0_2 a0_3 l0_4 l0_5) else (none)) else (none)) = some r := by first | (rw [hji37] at H; exact H) | (simp only [hji37] at H ⊢; exact H)
               (try rw [hji37] at A34)
               have hji37w : (IntKind.i64.wrap (x57_3 - 1)) = ji37 := (i64_w _).trans hji37
               by_cases c38 : 0 ≤ (ji37)
               ·rw [if_pos c38] at H
                have c38b0 : decide (0 ≤ (ji37)) = true := decide_eq_true c38
                clear c38
                by_cases c39 : (ji37) < (l0_4.length : Int)
                ·rw [if_pos c39] at H
                 have c39b0 : decide ((ji37) < (l0_4.length : Int)) = true := decide_eq_true c39
                 clear c39
                 have H' := Aside0.mk H
                 clear H
                 try go_wp2
                 have n0_ : Aside0 ((((w31.setCell ⟨gb114, 0, none⟩ (.int .i64 ((rd_T43 l0_4 x57_3).f0))).setCell ⟨gb114, 1, none⟩ (.int .i64 ((rd_T43 l0_4 x57_3).f1))).setCell ⟨gb114, 2, none⟩ (.int .i64 ((rd_T43 l0_4 x57_3).f2))).heap[gb109]? = some (.cells #[.int .i64 a0_0, .int .i64 a0_1, .int .i64 a0_2, .bool a0_3, .slice (some ad113) l0_4.length c0_4, .slice A0_5 l0_5.length c0_5] 25 (0, 0))) := ⟨by (with_reducible repeat (first | refine blk_drewN ?_ _ | refine blk_drew ?_ | refine blk_alloc ?_ _)); refine blk_far ?_ NB109_114.out _; (with_reducible repeat (first | refine blk_drewN ?_ _ | refine blk_drew ?_ | refine blk_alloc ?_ _)); refine blk_far ?_ NB109_114.out _; (with_reducible repeat (first | refine blk_drewN ?_ _ | refine blk_drew ?_ | refine blk_alloc ?_ _)); refine blk_far ?_ NB109_114.out _; (with_reducible repeat (first | refine blk_drewN ?_ _ | refine blk_drew ?_ | refine blk_alloc ?_ _)); exact BK109.out⟩
                 have n1_ : Aside0 ((((w31.setCell ⟨gb114, 0, none⟩ (.int .i64 ((rd_T43 l0_4 x57_3).f0))).setCell ⟨gb114, 1, none⟩ (.int .i64 ((rd_T43 l0_4 x57_3).f1))).setCell ⟨gb114, 2, none⟩ (.int .i64 ((rd_T43 l0_4 x57_3).f2))).heap[gb114]? = some (.cells #[.int .i64 ((rd_T43 l0_4 x57_3).f0), .int .i64 ((rd_T43 l0_4 x57_3).f1), .int .i64 ((rd_T43 l0_4 x57_3).f2)] 43 (0, 0))) := ⟨by (with_reducible repeat (first | refine blk_drewN ?_ _ | refine blk_drew ?_ | refine blk_alloc ?_ _)); refine blk_put (cs := #[.int .i64 ((rd_T43 l0_4 x57_3).f0), .int .i64 ((rd_T43 l0_4 x57_3).f1), .int .i64 0]) ?_ 2 _ rfl; (with_reducible repeat (first | refine blk_drewN ?_ _ | refine blk_drew ?_ | refine blk_alloc ?_ _)); refine blk_put (cs := #[.int .i64 ((rd_T43 l0_4 x57_3).f0), .int .i64 0, .int .i64 0]) ?_ 1 _ rfl; (with_reducible repeat (first | refine blk_drewN ?_ _ | refine blk_drew ?_ | refine blk_alloc ?_ _)); refine blk_put (cs := #[.int .i64 0, .int .i64 0, .int .i64 0]) ?_ 0 _ rfl; (with_reducible repeat (first | refine blk_drewN ?_ _ | refine blk_drew ?_ | refine blk_alloc ?_ _)); exact BK114.out⟩
                 have n2_ : Aside0 (Below w.heap.size w (((w31.setCell ⟨gb114, 0, none⟩ (.int .i64 ((rd_T43 l0_4 x57_3).f0))).setCell ⟨gb114, 1, none⟩ (.int .i64 ((rd_T43 l0_4 x57_3).f1))).setCell ⟨gb114, 2, none⟩ (.int .i64 ((rd_T43 l0_4 x57_3).f2)))) := ⟨by repeat (first | (with_reducible first | exact HB.out | apply bU | apply bS GE109.out | apply bS GE114.out) | exact HB.out)⟩
                 (try clear BK109)
                 (try clear BK114)
                 (try clear HB)
                 generalize (((w31.setCell ⟨gb114, 0, none⟩ (.int .i64 ((rd_T43 l0_4 x57_3).f0))).setCell ⟨gb114, 1, none⟩ (.int .i64 ((rd_T43 l0_4 x57_3).f1))).setCell ⟨gb114, 2, none⟩ (.int .i64 ((rd_T43 l0_4 x57_3).f2))) = w40 at n0_ n1_ n2_ ⊢
                 have BK109 := n0_
                 have BK114 := n1_
                 have HB := n2_
                 clear n0_ n1_ n2_
                 replace BK109 := Aside0.mk (blk_drew BK109.out)
                 replace BK114 := Aside0.mk (blk_drew BK114.out)
                 replace HB := Aside0.mk (below_drew1 HB.out)
                 have p116 : 0 ≤ ((ji37) : Int) := of_decide_eq_true (by first | (with_reducible assumption) | assumption)
                 have q116 : (ji37) < (l0_4.length : Int) := of_decide_eq_true (by first | (with_reducible assumption) | assumption)
                 obtain ⟨ad116, e116, hx116_0, hx116_1, hx116_2⟩ := at_T43 HR0_4.out (ji37) p116 q116
                 have hw116_2 := hx116_2
                 have hw116_1 := hx116_1
                 have hw116_0 := hx116_0
                 obtain rfl : ad113 = ad116 := (by injection e116)
                 replace hx116_0 := (HB.out.cell (World.block_lt_of_cell? w _ hx116_0)).trans hx116_0
                 replace hx116_1 := (HB.out.cell (World.block_lt_of_cell? w _ hx116_1)).trans hx116_1
                 replace hx116_2 := (HB.out.cell (World.block_lt_of_cell? w _ hx116_2)).trans hx116_2
                 replace p116 := eq_true p116
                 replace q116 := eq_true q116
                 refine start_ (n := 21) (S := fun w' => w'.cell? ⟨gb109, 0, none⟩ = some (.int .i64 a0_0) ∧ w'.cell? ⟨gb109, 1, none⟩ = some (.int .i64 a0_1) ∧ w'.cell? ⟨gb109, 2, none⟩ = some (.int .i64 a0_2) ∧ w'.cell? ⟨gb109, 3, none⟩ = some (.bool a0_3) ∧ w'.cell? ⟨gb109, 4, none⟩ = some (.slice (some ad113) l0_4.length c0_4) ∧ w'.cell? ⟨gb109, 5, none⟩ = some (.slice A0_5 l0_5.length c0_5) ∧ w'.cell? ⟨gb114, 0, none⟩ = some (.int .i64 ((rd_T43 l0_4 x57_3).f0)) ∧ w'.cell? ⟨gb114, 1, none⟩ = some (.int .i64 ((rd_T43 l0_4 x57_3).f1)) ∧ w'.cell? ⟨gb114, 2, none⟩ = some (.int .i64 ((rd_T43 l0_4 x57_3).f2)) ∧ w'.cell? (ad113.add (((ji37)).toNat * 3)) = some (.int .i64 ((rd_T43 l0_4 (ji37)).f0)) ∧ w'.cell? ⟨(ad113.add (((ji37)).toNat * 3)).block, (ad113.add (((ji37)).toNat * 3)).off + 1, none⟩ = some (.int .i64 ((rd_T43 l0_4 (ji37)).f1)) ∧ w'.cell? ⟨(ad113.add (((ji37)).toNat * 3)).block, (ad113.add (((ji37)).toNat * 3)).off + 2, none⟩ = some (.int .i64 ((rd_T43 l0_4 (ji37)).f2))) (ds := []) #[false, false, false, false, false, false, false, false, false, false, false, false, false, false, false, false, false, false, false, false, false] (by kernel_rfl) rfl rfl ⟨(blk_cell BK109.out 0).trans rfl, (blk_cell BK109.out 1).trans rfl, (blk_cell BK109.out 2).trans rfl, (blk_cell BK109.out 3).trans rfl, (blk_cell BK109.out 4).trans rfl, (blk_cell BK109.out 5).trans rfl, (blk_cell BK114.out 0).trans rfl, (blk_cell BK114.out 1).trans rfl, (blk_cell BK114.out 2).trans rfl, ((HB.out.cell (World.block_lt_of_cell? w _ hw116_0)).trans hw116_0), ((HB.out.cell (World.block_lt_of_cell? w _ hw116_1)).trans hw116_1), ((HB.out.cell (World.block_lt_of_cell? w _ hw116_2)).trans hw116_2)⟩ (fun hHeld => ?_); refine with_tabW lsa_Valid.tab8 lsa_Valid.bits8 (fun HT_ HW_ => ?_)
                 generalize w40.drew = w41 at BK109 BK114 HB hx116_0 hx116_1 hx116_2 hHeld ⊢
                 refine py 0 62 HT_ ?_
                 refine ty 1 63 HT_ HW_ rfl (Or.inl ⟨by rfl, by rintro w' ⟨s0, s1, s2, s3, s4, s5, s6, s7, s8, s9, s10, s11⟩; go_simp; with_reducible rfl⟩) hHeld ?_
                 refine ty 2 64 HT_ HW_ rfl (Or.inl ⟨by rfl, by rintro w' ⟨s0, s1, s2, s3, s4, s5, s6, s7, s8, s9, s10, s11⟩; go_simp; with_reducible rfl⟩) hHeld ?_
                 refine one_ (i := 3) (N := some 65) #[true, true, true, true, false, false, false, false, false, false, false, false, false, false, false, false, false, false, false, false, false] rfl rfl (one_of HT_.out (by kernel_rfl)) (by decide) (fun K hK => ?_)
                 refine goes_ Try.func30 (by kernel_rfl) rfl #[.int .i64 a0_0, .agg #[.int .i64 ((rd_T43 l0_4 x57_3).f0), .int .i64 ((rd_T43 l0_4 x57_3).f1), .int .i64 ((rd_T43 l0_4 x57_3).f2)]] (by rfl) rfl rfl (by (try simp only [List.map_toArray, List.map_cons, List.map_nil]); first | done | rfl | (simp only [List.length_drop, List.length_take]; rfl)) ?_
                 with_reducible refine (lsa_adjacency.calls a0_0 ((rd_T43 l0_4 x57_3).f0) ((rd_T43 l0_4 x57_3).f1) ((rd_T43 l0_4 x57_3).f2) true _ A34.out).mono ?_
                 rintro e w42 ⟨rfl, hb⟩
                 refine ⟨_, rfl, ?_⟩
                 replace BK109 := bb_ BK109 hb
                 replace BK114 := bb_ BK114 hb
                 replace HB := Aside0.mk (below_step (by repeat (first | (with_reducible first | exact HB.out | apply bU | apply bS GE109.out | apply bS GE114.out) | exact HB.out)) hb)
                 (try clear hb)
                 refine hK.out _ _ ⟨(blk_cell BK109.out 0).trans rfl, (blk_cell BK109.out 1).trans rfl, (blk_cell BK109.out 2).trans rfl, (blk_cell BK109.out 3).trans rfl, (blk_cell BK109.out 4).trans rfl, (blk_cell BK109.out 5).trans rfl, (blk_cell BK114.out 0).trans rfl, (blk_cell BK114.out 1).trans rfl, (blk_cell BK114.out 2).trans rfl, ((HB.out.cell (World.block_lt_of_cell? w _ hw116_0)).trans hw116_0), ((HB.out.cell (World.block_lt_of_cell? w _ hw116_1)).trans hw116_1), ((HB.out.cell (World.block_lt_of_cell? w _ hw116_2)).trans hw116_2)⟩ (fun hHeld => ?_)
                 clear hK K
                 refine norm_ (a' := ?_) ?_ ?_
                 rotate_left
                 ·show Act.put _ (some 65) _ = _
                  simp only [Act.put, List.setIfInBounds_toArray, List.set_cons_zero, List.set_cons_succ, i64_w, i32_w]
                  rfl
                 refine py 4 66 HT_ ?_
                 refine py 5 67 HT_ ?_
                 refine py 6 68 HT_ ?_
                 refine py 7 69 HT_ ?_
                 refine py 8 70 HT_ ?_
                 refine py 9 71 HT_ ?_
                 refine py 11 73 HT_ ?_
                 refine py 12 74 HT_ ?_
                 refine py 16 78 HT_ ?_
                 refine ty 10 72 HT_ HW_ rfl (Or.inl ⟨by rfl, by rintro w' ⟨s0, s1, s2, s3, s4, s5, s6, s7, s8, s9, s10, s11⟩; go_simp; with_reducible rfl⟩) hHeld ?_
                 refine py 13 75 HT_ ?_
                 refine py 14 76 HT_ ?_
                 refine ty 15 77 HT_ HW_ rfl (Or.inl ⟨by rfl, by rintro w' ⟨s0, s1, s2, s3, s4, s5, s6, s7, s8, s9, s10, s11⟩; go_simp; with_reducible rfl⟩) hHeld ?_
                 refine ty 17 79 HT_ HW_ rfl (Or.inl ⟨by rfl, by rintro w' ⟨s0, s1, s2, s3, s4, s5, s6, s7, s8, s9, s10, s11⟩; go_simp; with_reducible rfl⟩) hHeld ?_
                 refine py 18 80 HT_ ?_
                 refine py 19 81 HT_ ?_
                 refine py 20 82 HT_ ?_
                 refine done_ (done_of HT_.out (by kernel_rfl)) ?_
                 try go_wp2
                 go_meet
                 case rel => exact ⟨_, (decide (((rd_T43 l0_4 (ji37)).f1) ≥ ((rd_T43 l0_4 x57_3).f1))), (by first | rfl | (simp; done) | (simp only [← hji37] <;> (first | rfl | simp)) | (simp [*]; done)), H', ⟨by have := HJ1.out; have := HJ16.out; have := HK3.out; first | omega | exact Nat.le_refl _⟩, ⟨kb_ BK109⟩, ⟨kb_ BK114⟩, ⟨by repeat (first | (with_reducible first | exact HB.out | apply bU | apply bS GE109.out | apply bS GE114.out) | exact HB.out)⟩⟩
                ·rw [if_neg c39] at H
                 exact absurd H (by simp)
               ·rw [if_neg c38] at H
                exact absurd H (by simp)
              ·rw [if_neg c36] at H
               have c36b0 : decide (0 < x57_3) = false := decide_eq_false c36
               clear c36
               (first | rw [c36b0] | (simp only [i64_w, i32_w]; rw [c36b0]) | skip)
               have H' := Aside0.mk H
               clear H
               try go_wp2
               have n0_ : Aside0 ((((w31.setCell ⟨gb114, 0, none⟩ (.int .i64 ((rd_T43 l0_4 x57_3).f0))).setCell ⟨gb114, 1, none⟩ (.int .i64 ((rd_T43 l0_4 x57_3).f1))).setCell ⟨gb114, 2, none⟩ (.int .i64 ((rd_T43 l0_4 x57_3).f2))).heap[gb109]? = some (.cells #[.int .i64 a0_0, .int .i64 a0_1, .int .i64 a0_2, .bool a0_3, .slice (some ad113) l0_4.length c0_4, .slice A0_5 l0_5.length c0_5] 25 (0, 0))) := ⟨by (with_reducible repeat (first | refine blk_drewN ?_ _ | refine blk_drew ?_ | refine blk_alloc ?_ _)); refine blk_far ?_ NB109_114.out _; (with_reducible repeat (first | refine blk_drewN ?_ _ | refine blk_drew ?_ | refine blk_alloc ?_ _)); refine blk_far ?_ NB109_114.out _; (with_reducible repeat (first | refine blk_drewN ?_ _ | refine blk_drew ?_ | refine blk_alloc ?_ _)); refine blk_far ?_ NB109_114.out _; (with_reducible repeat (first | refine blk_drewN ?_ _ | refine blk_drew ?_ | refine blk_alloc ?_ _)); exact BK109.out⟩
               have n1_ : Aside0 ((((w31.setCell ⟨gb114, 0, none⟩ (.int .i64 ((rd_T43 l0_4 x57_3).f0))).setCell ⟨gb114, 1, none⟩ (.int .i64 ((rd_T43 l0_4 x57_3).f1))).setCell ⟨gb114, 2, none⟩ (.int .i64 ((rd_T43 l0_4 x57_3).f2))).heap[gb114]? = some (.cells #[.int .i64 ((rd_T43 l0_4 x57_3).f0), .int .i64 ((rd_T43 l0_4 x57_3).f1), .int .i64 ((rd_T43 l0_4 x57_3).f2)] 43 (0, 0))) := ⟨by (with_reducible repeat (first | refine blk_drewN ?_ _ | refine blk_drew ?_ | refine blk_alloc ?_ _)); refine blk_put (cs := #[.int .i64 ((rd_T43 l0_4 x57_3).f0), .int .i64 ((rd_T43 l0_4 x57_3).f1), .int .i64 0]) ?_ 2 _ rfl; (with_reducible repeat (first | refine blk_drewN ?_ _ | refine blk_drew ?_ | refine blk_alloc ?_ _)); refine blk_put (cs := #[.int .i64 ((rd_T43 l0_4 x57_3).f0), .int .i64 0, .int .i64 0]) ?_ 1 _ rfl; (with_reducible repeat (first | refine blk_drewN ?_ _ | refine blk_drew ?_ | refine blk_alloc ?_ _)); refine blk_put (cs := #[.int .i64 0, .int .i64 0, .int .i64 0]) ?_ 0 _ rfl; (with_reducible repeat (first | refine blk_drewN ?_ _ | refine blk_drew ?_ | refine blk_alloc ?_ _)); exact BK114.out⟩
               have n2_ : Aside0 (Below w.heap.size w (((w31.setCell ⟨gb114, 0, none⟩ (.int .i64 ((rd_T43 l0_4 x57_3).f0))).setCell ⟨gb114, 1, none⟩ (.int .i64 ((rd_T43 l0_4 x57_3).f1))).setCell ⟨gb114, 2, none⟩ (.int .i64 ((rd_T43 l0_4 x57_3).f2)))) := ⟨by repeat (first | (with_reducible first | exact HB.out | apply bU | apply bS GE109.out | apply bS GE114.out) | exact HB.out)⟩
               (try clear BK109)
               (try clear BK114)
               (try clear HB)
               generalize (((w31.setCell ⟨gb114, 0, none⟩ (.int .i64 ((rd_T43 l0_4 x57_3).f0))).setCell ⟨gb114, 1, none⟩ (.int .i64 ((rd_T43 l0_4 x57_3).f1))).setCell ⟨gb114, 2, none⟩ (.int .i64 ((rd_T43 l0_4 x57_3).f2))) = w43 at n0_ n1_ n2_ ⊢
               have BK109 := n0_
               have BK114 := n1_
               have HB := n2_
               clear n0_ n1_ n2_
               replace BK109 := Aside0.mk (blk_drew BK109.out)
               replace BK114 := Aside0.mk (blk_drew BK114.out)
               replace HB := Aside0.mk (below_drew1 HB.out)
               refine start_ (n := 21) (S := fun w' => w'.cell? ⟨gb109, 0, none⟩ = some (.int .i64 a0_0) ∧ w'.cell? ⟨gb109, 1, none⟩ = some (.int .i64 a0_1) ∧ w'.cell? ⟨gb109, 2, none⟩ = some (.int .i64 a0_2) ∧ w'.cell? ⟨gb109, 3, none⟩ = some (.bool a0_3) ∧ w'.cell? ⟨gb109, 4, none⟩ = some (.slice (some ad113) l0_4.length c0_4) ∧ w'.cell? ⟨gb109, 5, none⟩ = some (.slice A0_5 l0_5.length c0_5) ∧ w'.cell? ⟨gb114, 0, none⟩ = some (.int .i64 ((rd_T43 l0_4 x57_3).f0)) ∧ w'.cell? ⟨gb114, 1, none⟩ = some (.int .i64 ((rd_T43 l0_4 x57_3).f1)) ∧ w'.cell? ⟨gb114, 2, none⟩ = some (.int .i64 ((rd_T43 l0_4 x57_3).f2))) (ds := []) #[false, false, false, false, false, false, false, false, false, false, false, false, false, false, false, false, false, false, false, false, false] (by kernel_rfl) rfl rfl ⟨(blk_cell BK109.out 0).trans rfl, (blk_cell BK109.out 1).trans rfl, (blk_cell BK109.out 2).trans rfl, (blk_cell BK109.out 3).trans rfl, (blk_cell BK109.out 4).trans rfl, (blk_cell BK109.out 5).trans rfl, (blk_cell BK114.out 0).trans rfl, (blk_cell BK114.out 1).trans rfl, (blk_cell BK114.out 2).trans rfl⟩ (fun hHeld => ?_); refine with_tabW lsa_Valid.tab8 lsa_Valid.bits8 (fun HT_ HW_ => ?_)
               generalize w43.drew = w44 at BK109 BK114 HB hHeld ⊢
               refine py 0 62 HT_ ?_
               refine ty 1 63 HT_ HW_ rfl (Or.inl ⟨by rfl, by rintro w' ⟨s0, s1, s2, s3, s4, s5, s6, s7, s8⟩; go_simp; with_reducible rfl⟩) hHeld ?_
               refine ty 2 64 HT_ HW_ rfl (Or.inl ⟨by rfl, by rintro w' ⟨s0, s1, s2, s3, s4, s5, s6, s7, s8⟩; go_simp; with_reducible rfl⟩) hHeld ?_
               refine one_ (i := 3) (N := some 65) #[true, true, true, true, false, false, false, false, false, false, false, false, false, false, false, false, false, false, false, false, false] rfl rfl (one_of HT_.out (by kernel_rfl)) (by decide) (fun K hK => ?_)
               refine goes_ Try.func30 (by kernel_rfl) rfl #[.int .i64 a0_0, .agg #[.int .i64 ((rd_T43 l0_4 x57_3).f0), .int .i64 ((rd_T43 l0_4 x57_3).f1), .int .i64 ((rd_T43 l0_4 x57_3).f2)]] (by rfl) rfl rfl (by (try simp only [List.map_toArray, List.map_cons, List.map_nil]); first | done | rfl | (simp only [List.length_drop, List.length_take]; rfl)) ?_
               with_reducible refine (lsa_adjacency.calls a0_0 ((rd_T43 l0_4 x57_3).f0) ((rd_T43 l0_4 x57_3).f1) ((rd_T43 l0_4 x57_3).f2) true _ A34.out).mono ?_
               rintro e w45 ⟨rfl, hb⟩
               refine ⟨_, rfl, ?_⟩
               replace BK109 := bb_ BK109 hb
               replace BK114 := bb_ BK114 hb
               replace HB := Aside0.mk (below_step (by repeat (first | (with_reducible first | exact HB.out | apply bU | apply bS GE109.out | apply bS GE114.out) | exact HB.out)) hb)
               (try clear hb)
               refine hK.out _ _ ⟨(blk_cell BK109.out 0).trans rfl, (blk_cell BK109.out 1).trans rfl, (blk_cell BK109.out 2).trans rfl, (blk_cell BK109.out 3).trans rfl, (blk_cell BK109.out 4).trans rfl, (blk_cell BK109.out 5).trans rfl, (blk_cell BK114.out 0).trans rfl, (blk_cell BK114.out 1).trans rfl, (blk_cell BK114.out 2).trans rfl⟩ (fun hHeld => ?_)
               clear hK K
               refine norm_ (a' := ?_) ?_ ?_
               rotate_left
               ·show Act.put _ (some 65) _ = _
                simp only [Act.put, List.setIfInBounds_toArray, List.set_cons_zero, List.set_cons_succ, i64_w, i32_w]
                rfl
               refine py 4 66 HT_ ?_
               refine py 5 67 HT_ ?_
               refine py 6 68 HT_ ?_
               refine py 7 69 HT_ ?_
               refine py 8 70 HT_ ?_
               refine pu 9 71 HT_ ?_
               refine pu 10 72 HT_ ?_
               refine pu 11 73 HT_ ?_
               refine pu 12 74 HT_ ?_
               refine pu 13 75 HT_ ?_
               refine pu 14 76 HT_ ?_
               refine pu 15 77 HT_ ?_
               refine pu 16 78 HT_ ?_
               refine pu 17 79 HT_ ?_
               refine pu 18 80 HT_ ?_
               refine py 19 81 HT_ ?_
               refine py 20 82 HT_ ?_
               refine done_ (done_of HT_.out (by kernel_rfl)) ?_
               try go_wp2
               go_meet
               case rel => exact ⟨_, (false), (by first | rfl | (simp; done) | (simp [*]; done)), H', ⟨by have := HJ1.out; have := HJ16.out; have := HK3.out; first | omega | exact Nat.le_refl _⟩, ⟨kb_ BK109⟩, ⟨kb_ BK114⟩, ⟨by repeat (first | (with_reducible first | exact HB.out | apply bU | apply bS GE109.out | apply bS GE114.out) | exact HB.out)⟩⟩
             ·replace c35 := Bool.eq_false_iff.mpr c35
              subst c35
              have H1 : (lsa_Valid.j3 k3 l0_4 (l0_4.length : Int) x57_3 true a0_0 a0_1 a0_2 a0_3 l0_4 l0_5) = some r := by rw [if_neg (show ¬ (false = true) by decide)] at H; exact H
              clear H
              have H := H1
              clear H1
              have H' := Aside0.mk H
              clear H
              try go_wp2
              have n0_ : Aside0 ((((w31.setCell ⟨gb114, 0, none⟩ (.int .i64 ((rd_T43 l0_4 x57_3).f0))).setCell ⟨gb114, 1, none⟩ (.int .i64 ((rd_T43 l0_4 x57_3).f1))).setCell ⟨gb114, 2, none⟩ (.int .i64 ((rd_T43 l0_4 x57_3).f2))).heap[gb109]? = some (.cells #[.int .i64 a0_0, .int .i64 a0_1, .int .i64 a0_2, .bool a0_3, .slice (some ad113) l0_4.length c0_4, .slice A0_5 l0_5.length c0_5] 25 (0, 0))) := ⟨by (with_reducible repeat (first | refine blk_drewN ?_ _ | refine blk_drew ?_ | refine blk_alloc ?_ _)); refine blk_far ?_ NB109_114.out _; (with_reducible repeat (first | refine blk_drewN ?_ _ | refine blk_drew ?_ | refine blk_alloc ?_ _)); refine blk_far ?_ NB109_114.out _; (with_reducible repeat (first | refine blk_drewN ?_ _ | refine blk_drew ?_ | refine blk_alloc ?_ _)); refine blk_far ?_ NB109_114.out _; (with_reducible repeat (first | refine blk_drewN ?_ _ | refine blk_drew ?_ | refine blk_alloc ?_ _)); exact BK109.out⟩
              have n1_ : Aside0 ((((w31.setCell ⟨gb114, 0, none⟩ (.int .i64 ((rd_T43 l0_4 x57_3).f0))).setCell ⟨gb114, 1, none⟩ (.int .i64 ((rd_T43 l0_4 x57_3).f1))).setCell ⟨gb114, 2, none⟩ (.int .i64 ((rd_T43 l0_4 x57_3).f2))).heap[gb114]? = some (.cells #[.int .i64 ((rd_T43 l0_4 x57_3).f0), .int .i64 ((rd_T43 l0_4 x57_3).f1), .int .i64 ((rd_T43 l0_4 x57_3).f2)] 43 (0, 0))) := ⟨by (with_reducible repeat (first | refine blk_drewN ?_ _ | refine blk_drew ?_ | refine blk_alloc ?_ _)); refine blk_put (cs := #[.int .i64 ((rd_T43 l0_4 x57_3).f0), .int .i64 ((rd_T43 l0_4 x57_3).f1), .int .i64 0]) ?_ 2 _ rfl; (with_reducible repeat (first | refine blk_drewN ?_ _ | refine blk_drew ?_ | refine blk_alloc ?_ _)); refine blk_put (cs := #[.int .i64 ((rd_T43 l0_4 x57_3).f0), .int .i64 0, .int .i64 0]) ?_ 1 _ rfl; (with_reducible repeat (first | refine blk_drewN ?_ _ | refine blk_drew ?_ | refine blk_alloc ?_ _)); refine blk_put (cs := #[.int .i64 0, .int .i64 0, .int .i64 0]) ?_ 0 _ rfl; (with_reducible repeat (first | refine blk_drewN ?_ _ | refine blk_drew ?_ | refine blk_alloc ?_ _)); exact BK114.out⟩
              have n2_ : Aside0 (Below w.heap.size w (((w31.setCell ⟨gb114, 0, none⟩ (.int .i64 ((rd_T43 l0_4 x57_3).f0))).setCell ⟨gb114, 1, none⟩ (.int .i64 ((rd_T43 l0_4 x57_3).f1))).setCell ⟨gb114, 2, none⟩ (.int .i64 ((rd_T43 l0_4 x57_3).f2)))) := ⟨by repeat (first | (with_reducible first | exact HB.out | apply bU | apply bS GE109.out | apply bS GE114.out) | exact HB.out)⟩
              (try clear BK109)
              (try clear BK114)
              (try clear HB)
              generalize (((w31.setCell ⟨gb114, 0, none⟩ (.int .i64 ((rd_T43 l0_4 x57_3).f0))).setCell ⟨gb114, 1, none⟩ (.int .i64 ((rd_T43 l0_4 x57_3).f1))).setCell ⟨gb114, 2, none⟩ (.int .i64 ((rd_T43 l0_4 x57_3).f2))) = w46 at n0_ n1_ n2_ ⊢
              have BK109 := n0_
              have BK114 := n1_
              have HB := n2_
              clear n0_ n1_ n2_
              replace BK109 := Aside0.mk (blk_drew BK109.out)
              replace BK114 := Aside0.mk (blk_drew BK114.out)
              replace HB := Aside0.mk (below_drew1 HB.out)
              refine start_ (n := 21) (S := fun w' => w'.cell? ⟨gb109, 0, none⟩ = some (.int .i64 a0_0) ∧ w'.cell? ⟨gb109, 1, none⟩ = some (.int .i64 a0_1) ∧ w'.cell? ⟨gb109, 2, none⟩ = some (.int .i64 a0_2) ∧ w'.cell? ⟨gb109, 3, none⟩ = some (.bool a0_3) ∧ w'.cell? ⟨gb109, 4, none⟩ = some (.slice (some ad113) l0_4.length c0_4) ∧ w'.cell? ⟨gb109, 5, none⟩ = some (.slice A0_5 l0_5.length c0_5) ∧ w'.cell? ⟨gb114, 0, none⟩ = some (.int .i64 ((rd_T43 l0_4 x57_3).f0)) ∧ w'.cell? ⟨gb114, 1, none⟩ = some (.int .i64 ((rd_T43 l0_4 x57_3).f1)) ∧ w'.cell? ⟨gb114, 2, none⟩ = some (.int .i64 ((rd_T43 l0_4 x57_3).f2))) (ds := []) #[false, false, false, false, false, false, false, false, false, false, false, false, false, false, false, false, false, false, false, false, false] (by kernel_rfl) rfl rfl ⟨(blk_cell BK109.out 0).trans rfl, (blk_cell BK109.out 1).trans rfl, (blk_cell BK109.out 2).trans rfl, (blk_cell BK109.out 3).trans rfl, (blk_cell BK109.out 4).trans rfl, (blk_cell BK109.out 5).trans rfl, (blk_cell BK114.out 0).trans rfl, (blk_cell BK114.out 1).trans rfl, (blk_cell BK114.out 2).trans rfl⟩ (fun hHeld => ?_); refine with_tabW lsa_Valid.tab8 lsa_Valid.bits8 (fun HT_ HW_ => ?_)
              generalize w46.drew = w47 at BK109 BK114 HB hHeld ⊢
              refine py 0 62 HT_ ?_
              refine ty 1 63 HT_ HW_ rfl (Or.inl ⟨by rfl, by rintro w' ⟨s0, s1, s2, s3, s4, s5, s6, s7, s8⟩; go_simp; with_reducible rfl⟩) hHeld ?_
              refine ty 2 64 HT_ HW_ rfl (Or.inl ⟨by rfl, by rintro w' ⟨s0, s1, s2, s3, s4, s5, s6, s7, s8⟩; go_simp; with_reducible rfl⟩) hHeld ?_
              refine one_ (i := 3) (N := some 65) #[true, true, true, true, false, false, false, false, false, false, false, false, false, false, false, false, false, false, false, false, false] rfl rfl (one_of HT_.out (by kernel_rfl)) (by decide) (fun K hK => ?_)
              refine goes_ Try.func30 (by kernel_rfl) rfl #[.int .i64 a0_0, .agg #[.int .i64 ((rd_T43 l0_4 x57_3).f0), .int .i64 ((rd_T43 l0_4 x57_3).f1), .int .i64 ((rd_T43 l0_4 x57_3).f2)]] (by rfl) rfl rfl (by (try simp only [List.map_toArray, List.map_cons, List.map_nil]); first | done | rfl | (simp only [List.length_drop, List.length_take]; rfl)) ?_
              with_reducible refine (lsa_adjacency.calls a0_0 ((rd_T43 l0_4 x57_3).f0) ((rd_T43 l0_4 x57_3).f1) ((rd_T43 l0_4 x57_3).f2) false _ A34.out).mono ?_
              rintro e w48 ⟨rfl, hb⟩
              refine ⟨_, rfl, ?_⟩
              replace BK109 := bb_ BK109 hb
              replace BK114 := bb_ BK114 hb
              replace HB := Aside0.mk (below_step (by repeat (first | (with_reducible first | exact HB.out | apply bU | apply bS GE109.out | apply bS GE114.out) | exact HB.out)) hb)
              (try clear hb)
              refine hK.out _ _ ⟨(blk_cell BK109.out 0).trans rfl, (blk_cell BK109.out 1).trans rfl, (blk_cell BK109.out 2).trans rfl, (blk_cell BK109.out 3).trans rfl, (blk_cell BK109.out 4).trans rfl, (blk_cell BK109.out 5).trans rfl, (blk_cell BK114.out 0).trans rfl, (blk_cell BK114.out 1).trans rfl, (blk_cell BK114.out 2).trans rfl⟩ (fun hHeld => ?_)
              clear hK K
              refine norm_ (a' := ?_) ?_ ?_
              rotate_left
              ·show Act.put _ (some 65) _ = _
               simp only [Act.put, List.setIfInBounds_toArray, List.set_cons_zero, List.set_cons_succ, i64_w, i32_w]
               rfl
              refine py 4 66 HT_ ?_
              refine py 5 67 HT_ ?_
              refine pu 6 68 HT_ ?_
              refine pu 7 69 HT_ ?_
              refine pu 8 70 HT_ ?_
              refine pu 9 71 HT_ ?_
              refine pu 10 72 HT_ ?_
              refine pu 11 73 HT_ ?_
              refine pu 12 74 HT_ ?_
              refine pu 13 75 HT_ ?_
              refine pu 14 76 HT_ ?_
              refine pu 15 77 HT_ ?_
              refine pu 16 78 HT_ ?_
              refine pu 17 79 HT_ ?_
              refine pu 18 80 HT_ ?_
              refine pu 19 81 HT_ ?_
              refine py 20 82 HT_ ?_
              refine done_ (done_of HT_.out (by kernel_rfl)) ?_
              try go_wp2
              go_meet
              case rel => exact ⟨_, (true), (by first | rfl | (simp; done) | (simp [*]; done)), H', ⟨by have := HJ1.out; have := HJ16.out; have := HK3.out; first | omega | exact Nat.le_refl _⟩, ⟨kb_ BK109⟩, ⟨kb_ BK114⟩, ⟨by repeat (first | (with_reducible first | exact HB.out | apply bU | apply bS GE109.out | apply bS GE114.out) | exact HB.out)⟩⟩
            case rest =>
             clear HC30
             obtain ⟨kq, x82_29, rfl, HA, HJ29, BK109, BK114, HB⟩ := hcut
             cases kq with
             | zero => exact absurd HA.out (by simp [lsa_Valid.j3])
             | succ kj29 =>
              have H := HA.out
              clear HA
              simp only [lsa_Valid.j3] at H
              by_cases c49 : x82_29 = true
              ·subst c49
               have H1 : (some false) = some r := by rw [if_pos rfl] at H; exact H
               clear H
               have H := H1
               clear H1
               obtain rfl := Option.some.inj H
               go_wp2
               go_ret
               exact ⟨by first | rfl | (simp [errW_none, errW_some] <;> rfl) | (simp [*, errW_none, errW_some] <;> rfl), by repeat (first | (with_reducible first | exact HB.out | apply bU | apply bS GE109.out | apply bS GE114.out) | exact HB.out)⟩
              ·replace c49 := Bool.eq_false_iff.mpr c49
               subst c49
               have H1 : (lsa_Valid.l0 kj29 l0_4 (l0_4.length : Int) (wrap64 (x57_3 + 1)) a0_0 a0_1 a0_2 a0_3 l0_4 l0_5) = some r := by rw [if_neg (show ¬ (false = true) by decide)] at H; exact H
               clear H
               have H := H1
               clear H1
               have H' := Aside0.mk H
               clear H
               go_wp2
               go_roundg kj29
               case measure => have := HJ1.out; have := HJ16.out; have := HK3.out; have := HJ29.out; omega
               case rel => exact ⟨(wrap64 (x57_3 + 1)), (by first | rfl | (simp; done) | (simp [*]; done)), H', ⟨by have := HJ1.out; have := HJ16.out; have := HK3.out; have := HJ29.out; omega⟩, ⟨kb_ BK109⟩, ⟨by repeat (first | (with_reducible first | exact HB.out | apply bU | apply bS GE109.out | apply bS GE114.out) | exact HB.out)⟩⟩
           ·rw [if_neg c29] at H
            exact absurd H (by simp)
          ·rw [if_neg c28] at H
           exact absurd H (by simp)
         ·rw [if_neg c27] at H
          have c27b0 : decide (x57_3 < (l0_4.length : Int)) = false := decide_eq_false c27
          clear c27
          have H' := Aside0.mk H
          clear H
          obtain ⟨hcz50_0, hcz50_1, hcz50_2, hcz50_3, hcz50_4, hcz50_5, hfz50_0, hfz50_1, hfz50_2, hfz50_3, hfz50_4, hfz50_5⟩ := c6_ BK109
          go_wp2
          go_loopg [87] k3 (fun kq v87 w' => ∃ (x87_4 : Int), v87 = .int .i64 x87_4 ∧ Aside0 (lsa_Valid.l1 kq l0_5 (l0_5.length : Int) x87_4 a0_0 a0_1 a0_2 a0_3 l0_4 l0_5 = some r) ∧ Aside0 (kq ≤ k3) ∧ Aside0 (w'.heap[gb109]? = some (.cells #[.int .i64 a0_0, .int .i64 a0_1, .int .i64 a0_2, .bool a0_3, (.slice A0_4 l0_4.length c0_4), (.slice A0_5 l0_5.length c0_5)] 25 (0, 0))) ∧ Aside0 (Below w.heap.size w w'))
          case atStart => exact ⟨(0), (by first | rfl | (simp; done) | (simp [*]; done)), H', ⟨Nat.le_refl _⟩, ⟨kb_ BK109⟩, ⟨by repeat (first | (with_reducible first | exact HB.out | apply bU | apply bS GE109.out) | exact HB.out)⟩⟩
          case round =>
           clear H'
           (try clear c27); (try clear c27b0); (try clear hcz50_0); (try clear hcz50_1); (try clear hcz50_2); (try clear hcz50_3); (try clear hcz50_4); (try clear hcz50_5); (try clear hfz50_0); (try clear hfz50_1); (try clear hfz50_2); (try clear hfz50_3); (try clear hfz50_4); (try clear hfz50_5)
           obtain ⟨x87_4, rfl, HA, HK4, BK109, HB⟩ := hrel
           cases gk with
           | zero => exact absurd HA.out (by simp [lsa_Valid.l1])
           | succ k4 =>
            have H := HA.out
            clear HA
            simp only [lsa_Valid.l1] at H
            by_cases c51 : x87_4 < (l0_5.length : Int)
            ·rw [if_pos c51] at H
             have c51b0 : decide (x87_4 < (l0_5.length : Int)) = true := decide_eq_true c51
             clear c51
             by_cases c52 : 0 ≤ x87_4
             ·rw [if_pos c52] at H
              have c52b0 : decide (0 ≤ x87_4) = true := decide_eq_true c52
              clear c52
              by_cases c53 : x87_4 < (l0_5.length : Int)
              ·rw [if_pos c53] at H
               have c53b0 : decide (x87_4 < (l0_5.length : Int)) = true := decide_eq_true c53
               clear c53
               have HC54 := Aside0.mk H
               clear H
               have p117 : 0 ≤ (x87_4 : Int) := of_decide_eq_true (by first | (with_reducible assumption) | assumption)
               have q117 : x87_4 < (l0_5.length : Int) := of_decide_eq_true (by first | (with_reducible assumption) | assumption)
               obtain ⟨ad117, e117, hx117_0, hx117_1⟩ := at_T56 HR0_5.out x87_4 p117 q117
               cases e117
               replace hx117_0 := (HB.out.cell (World.block_lt_of_cell? w _ hx117_0)).trans hx117_0
               replace hx117_1 := (HB.out.cell (World.block_lt_of_cell? w _ hx117_1)).trans hx117_1
               replace p117 := eq_true p117
               replace q117 := eq_true q117
               go_upto_region 14 with (first | ((with_reducible refine gate_dst (N := 6) rfl ?_); (try (refine gate_guard (by rfl) ?_; dsimp only)); refine box_event ?hg (N := 6) ?hd (cs := #[.int .u32 0, .int .i64 0]) (t := 56) ?hr ?_; (case hd => rfl); (case hg => rfl); (case hr => first | (go_simp; done) | (go_simp; rfl)); intro gb118 hg w55 hbox hb; have BK118 := Aside0.mk (hbox); have GW118 := Aside0.mk ((by rw [hg]; exact (below_size (by repeat (first | (with_reducible first | exact HB.out | apply bU | apply bS GE109.out) | exact HB.out))) : w.heap.size ≤ gb118)); have GE118 := Aside0.mk ((by rw [hg]; exact (below_size (by repeat (first | (with_reducible first | exact HB.out | apply bU | apply bS GE109.out) | exact HB.out))) : w.heap.size ≤ gb118)); have NB109_118 := nl_ BK109 hg; have NB118_109 := ng_ BK109 hg; replace BK109 := bb_ BK109 hb; replace HB := Aside0.mk (below_step (by repeat (first | (with_reducible first | exact HB.out | apply bU | apply bS GE109.out) | exact HB.out)) hb); clear hb hbox hg; have hnb56 := NB118_109.out; have hnc56 := NB109_118.out; obtain ⟨hcz57_0, hcz57_1, hfz57_0, hfz57_1⟩ := c2_ BK118))
               (try simp only [Act.put, List.setIfInBounds_toArray, List.set_cons_zero, List.set_cons_succ])
               go_cut [109] (fun v109 wc => ∃ (kq : Nat) (x109_53 : Bool), v109 = .bool x109_53 ∧ Aside0 (lsa_Valid.j5 kq l0_5 (l0_5.length : Int) x87_4 x109_53 a0_0 a0_1 a0_2 a0_3 l0_4 l0_5 = some r) ∧ Aside0 (kq ≤ k4) ∧ Aside0 (wc.heap[gb109]? = some (.cells #[.int .i64 a0_0, .int .i64 a0_1, .int .i64 a0_2, .bool a0_3, (.slice A0_4 l0_4.length c0_4), (.slice (some ad117) l0_5.length c0_5)] 25 (0, 0))) ∧ Aside0 (wc.heap[gb118]? = some (.cells #[.int .u32 ((rd_T56 l0_5 x87_4).f0), .int .i64 ((rd_T56 l0_5 x87_4).f1)] 56 (0, 0))) ∧ Aside0 (Below w.heap.size w wc))
               case first =>
                have H := HC54.out
                clear HC54
                replace H := Option.bind_eq_some_iff.mp H
                obtain ⟨t119, A580, H⟩ := H
                replace H : (if t119 = true then (if x87_4 > 0 then (if 0 ≤ (wrap64 (x87_4 - 1)) then (if (wrap64 (x87_4 - 1)) < (l0_5.length : Int) then ((lsa_less.f ((rd_T56 l0_5 (wrap64 (x87_4 - 1))).f0) ((rd_T56 l0_5 (wrap64 (x87_4 - 1))).f1) ((rd_T56 l0_5 x87_4).f0) ((rd_T56 l0_5 x87_4).f1)).bind fun t121 => (lsa_Valid.j5 k4 l0_5 (l0_5.length : Int) x87_4 (!t121) a0_0 a0_1 a0_2 a0_3 l0_4 l0_5)) else (none)) else (none)) else (lsa_Valid.j5 k4 l0_5 (l0_5.length : Int) x87_4 false a0_0 a0_1 a0_2 a0_3 l0_4 l0_5)) else (lsa_Valid.j5 k4 l0_5 (l0_5.length : Int) x87_4 true a0_0 a0_1 a0_2 a0_3 l0_4 l0_5)) = some r := H
                have A58 := Aside0.mk A580
                clear A580
                by_cases c59 : t119 = true
                ·subst c59
                 have H1 : (if x87_4 > 0 then (if 0 ≤ (wrap64 (x87_4 - 1)) then (if (wrap64 (x87_4 - 1)) < (l0_5.length : Int) then ((lsa_less.f ((rd_T56 l0_5 (wrap64 (x87_4 - 1))).f0) ((rd_T56 l0_5 (wrap64 (x87_4 - 1))).f1) ((rd_T56 l0_5 x87_4).f0) ((rd_T56 l0_5 x87_4).f1)).bind fun t121 => (lsa_Valid.j5 k4 l0_5 (l0_5.length : Int) x87_4 (!t121) a0_0 a0_1 a0_2 a0_3 l0_4 l0_5)) else (none)) else (none)) else (lsa_Valid.j5 k4 l0_5 (l0_5.length : Int) x87_4 false a0_0 a0_1 a0_2 a0_3 l0_4 l0_5)) = some r := by rw [if_pos rfl] at H; exact H
                 clear H
                 have H := H1
                 clear H1
                 by_cases c60 : x87_4 > 0
                 ·rw [if_pos c60] at H
                  have c60b0 : decide (0 < x87_4) = true := decide_eq_true c60
                  clear c60
                  (first | rw [c60b0] | (simp only [i64_w, i32_w]; rw [c60b0]) | skip)
                  obtain ⟨ji61, hji61⟩ : ∃ j_ : Int, (wrap64 (x87_4 - 1)) = j_ := ⟨_, rfl⟩
                  replace H : (if 0 ≤ (ji61) then (if (ji61) < (l0_5.length : Int) then ((lsa_less.f ((rd_T56 l0_5 (ji61)).f0) ((rd_T56 l0_5 (ji61)).f1) ((rd_T56 l0_5 x87_4).f0) ((rd_T56 l0_5 x87_4).f1)).bind fun t121 => (lsa_Valid.j5 k4 l0_5 (l0_5.length : Int) x87_4 (!t121) a0_0 a0_1 a0_2 a0_3 l0_4 l0_5)) else (none)) else (none)) = some r := by first | (rw [hji61] at H; exact H) | (simp only [hji61] at H ⊢; exact H)
                  (try rw [hji61] at A58)
                  have hji61w : (IntKind.i64.wrap (x87_4 - 1)) = ji61 := (i64_w _).trans hji61
                  by_cases c62 : 0 ≤ (ji61)
                  ·rw [if_pos c62] at H
                   have c62b0 : decide (0 ≤ (ji61)) = true := decide_eq_true c62
                   clear c62
                   by_cases c63 : (ji61) < (l0_5.length : Int)
                   ·rw [if_pos c63] at H
                    have c63b0 : decide ((ji61) < (l0_5.length : Int)) = true := decide_eq_true c63
                    clear c63
                    replace H := Option.bind_eq_some_iff.mp H
                    obtain ⟨t121, A640, H⟩ := H
                    replace H : (lsa_Valid.j5 k4 l0_5 (l0_5.length : Int) x87_4 (!t121) a0_0 a0_1 a0_2 a0_3 l0_4 l0_5) = some r := H
                    have A64 := Aside0.mk A640
                    clear A640
                    have H' := Aside0.mk H
                    clear H
                    try go_wp2
                    have n0_ : Aside0 (((w55.setCell ⟨gb118, 0, none⟩ (.int .u32 ((rd_T56 l0_5 x87_4).f0))).setCell ⟨gb118, 1, none⟩ (.int .i64 ((rd_T56 l0_5 x87_4).f1))).heap[gb109]? = some (.cells #[.int .i64 a0_0, .int .i64 a0_1, .int .i64 a0_2, .bool a0_3, .slice A0_4 l0_4.length c0_4, .slice (some ad117) l0_5.length c0_5] 25 (0, 0))) := ⟨by (with_reducible repeat (first | refine blk_drewN ?_ _ | refine blk_drew ?_ | refine blk_alloc ?_ _)); refine blk_far ?_ NB109_118.out _; (with_reducible repeat (first | refine blk_drewN ?_ _ | refine blk_drew ?_ | refine blk_alloc ?_ _)); refine blk_far ?_ NB109_118.out _; (with_reducible repeat (first | refine blk_drewN ?_ _ | refine blk_drew ?_ | refine blk_alloc ?_ _)); exact BK109.out⟩
                    have n1_ : Aside0 (((w55.setCell ⟨gb118, 0, none⟩ (.int .u32 ((rd_T56 l0_5 x87_4).f0))).setCell ⟨gb118, 1, none⟩ (.int .i64 ((rd_T56 l0_5 x87_4).f1))).heap[gb118]? = some (.cells #[.int .u32 ((rd_T56 l0_5 x87_4).f0), .int .i64 ((rd_T56 l0_5 x87_4).f1)] 56 (0, 0))) := ⟨by (with_reducible repeat (first | refine blk_drewN ?_ _ | refine blk_drew ?_ | refine blk_alloc ?_ _)); refine blk_put (cs := #[.int .u32 ((rd_T56 l0_5 x87_4).f0), .int .i64 0]) ?_ 1 _ rfl; (with_reducible repeat (first | refine blk_drewN ?_ _ | refine blk_drew ?_ | refine blk_alloc ?_ _)); refine blk_put (cs := #[.int .u32 0, .int .i64 0]) ?_ 0 _ rfl; (with_reducible repeat (first | refine blk_drewN ?_ _ | refine blk_drew ?_ | refine blk_alloc ?_ _)); exact BK118.out⟩
                    have n2_ : Aside0 (Below w.heap.size w ((w55.setCell ⟨gb118, 0, none⟩ (.int .u32 ((rd_T56 l0_5 x87_4).f0))).setCell ⟨gb118, 1, none⟩ (.int .i64 ((rd_T56 l0_5 x87_4).f1)))) := ⟨by repeat (first | (with_reducible first | exact HB.out | apply bU | apply bS GE109.out | apply bS GE118.out) | exact HB.out)⟩
                    (try clear BK109)
                    (try clear BK118)
                    (try clear HB)
                    generalize ((w55.setCell ⟨gb118, 0, none⟩ (.int .u32 ((rd_T56 l0_5 x87_4).f0))).setCell ⟨gb118, 1, none⟩ (.int .i64 ((rd_T56 l0_5 x87_4).f1))) = w65 at n0_ n1_ n2_ ⊢
                    have BK109 := n0_
                    have BK118 := n1_
                    have HB := n2_
                    clear n0_ n1_ n2_
                    replace BK109 := Aside0.mk (blk_drew BK109.out)
                    replace BK118 := Aside0.mk (blk_drew BK118.out)
                    replace HB := Aside0.mk (below_drew1 HB.out)
                    have p120 : 0 ≤ ((ji61) : Int) := of_decide_eq_true (by first | (with_reducible assumption) | assumption)
                    have q120 : (ji61) < (l0_5.length : Int) := of_decide_eq_true (by first | (with_reducible assumption) | assumption)
                    obtain ⟨ad120, e120, hx120_0, hx120_1⟩ := at_T56 HR0_5.out (ji61) p120 q120
                    have hw120_1 := hx120_1
                    have hw120_0 := hx120_0
                    obtain rfl : ad117 = ad120 := (by injection e120)
                    replace hx120_0 := (HB.out.cell (World.block_lt_of_cell? w _ hx120_0)).trans hx120_0
                    replace hx120_1 := (HB.out.cell (World.block_lt_of_cell? w _ hx120_1)).trans hx120_1
                    replace p120 := eq_true p120
                    replace q120 := eq_true q120
                    refine start_ (n := 18) (S := fun w' => w'.cell? ⟨gb118, 0, none⟩ = some (.int .u32 ((rd_T56 l0_5 x87_4).f0)) ∧ w'.cell? ⟨gb118, 1, none⟩ = some (.int .i64 ((rd_T56 l0_5 x87_4).f1)) ∧ w'.cell? ⟨gb109, 0, none⟩ = some (.int .i64 a0_0) ∧ w'.cell? ⟨gb109, 1, none⟩ = some (.int .i64 a0_1) ∧ w'.cell? ⟨gb109, 2, none⟩ = some (.int .i64 a0_2) ∧ w'.cell? ⟨gb109, 3, none⟩ = some (.bool a0_3) ∧ w'.cell? ⟨gb109, 4, none⟩ = some (.slice A0_4 l0_4.length c0_4) ∧ w'.cell? ⟨gb109, 5, none⟩ = some (.slice (some ad117) l0_5.length c0_5) ∧ w'.cell? (ad117.add (((ji61)).toNat * 2)) = some (.int .u32 ((rd_T56 l0_5 (ji61)).f0)) ∧ w'.cell? ⟨(ad117.add (((ji61)).toNat * 2)).block, (ad117.add (((ji61)).toNat * 2)).off + 1, none⟩ = some (.int .i64 ((rd_T56 l0_5 (ji61)).f1))) (ds := []) #[false, false, false, false, false, false, false, false, false, false, false, false, false, false, false, false, false, false] (by kernel_rfl) rfl rfl ⟨(blk_cell BK118.out 0).trans rfl, (blk_cell BK118.out 1).trans rfl, (blk_cell BK109.out 0).trans rfl, (blk_cell BK109.out 1).trans rfl, (blk_cell BK109.out 2).trans rfl, (blk_cell BK109.out 3).trans rfl, (blk_cell BK109.out 4).trans rfl, (blk_cell BK109.out 5).trans rfl, ((HB.out.cell (World.block_lt_of_cell? w _ hw120_0)).trans hw120_0), ((HB.out.cell (World.block_lt_of_cell? w _ hw120_1)).trans hw120_1)⟩ (fun hHeld => ?_); refine with_tabW lsa_Valid.tab14 lsa_Valid.bits14 (fun HT_ HW_ => ?_)
                    generalize w65.drew = w66 at BK109 BK118 HB hx120_0 hx120_1 hHeld ⊢
                    refine ty 0 92 HT_ HW_ rfl (Or.inl ⟨by rfl, by rintro w' ⟨s0, s1, s2, s3, s4, s5, s6, s7, s8, s9⟩; go_simp; with_reducible rfl⟩) hHeld ?_
                    refine one_ (i := 1) (N := some 93) #[true, true, false, false, false, false, false, false, false, false, false, false, false, false, false, false, false, false] rfl rfl (one_of HT_.out (by kernel_rfl)) (by decide) (fun K hK => ?_)
                    refine goes_ Try.func31 (by kernel_rfl) rfl #[.agg #[.int .u32 ((rd_T56 l0_5 x87_4).f0), .int .i64 ((rd_T56 l0_5 x87_4).f1)]] (by rfl) rfl rfl (by (try simp only [List.map_toArray, List.map_cons, List.map_nil]); first | done | rfl | (simp only [List.length_drop, List.length_take]; rfl)) ?_
                    with_reducible refine (lsa_prefix.calls ((rd_T56 l0_5 x87_4).f0) ((rd_T56 l0_5 x87_4).f1) true _ A58.out).mono ?_
                    rintro e w67 ⟨rfl, hb⟩
                    refine ⟨_, rfl, ?_⟩
                    replace BK109 := bb_ BK109 hb
                    replace BK118 := bb_ BK118 hb
                    replace HB := Aside0.mk (below_step (by repeat (first | (with_reducible first | exact HB.out | apply bU | apply bS GE109.out | apply bS GE118.out) | exact HB.out)) hb)
                    (try clear hb)
                    refine hK.out _ _ ⟨(blk_cell BK118.out 0).trans rfl, (blk_cell BK118.out 1).trans rfl, (blk_cell BK109.out 0).trans rfl, (blk_cell BK109.out 1).trans rfl, (blk_cell BK109.out 2).trans rfl, (blk_cell BK109.out 3).trans rfl, (blk_cell BK109.out 4).trans rfl, (blk_cell BK109.out 5).trans rfl, ((HB.out.cell (World.block_lt_of_cell? w _ hw120_0)).trans hw120_0), ((HB.out.cell (World.block_lt_of_cell? w _ hw120_1)).trans hw120_1)⟩ (fun hHeld => ?_)
                    clear hK K
                    refine norm_ (a' := ?_) ?_ ?_
                    rotate_left
                    ·show Act.put _ (some 93) _ = _
                     simp only [Act.put, List.setIfInBounds_toArray, List.set_cons_zero, List.set_cons_succ, i64_w, i32_w]
                     rfl
                    refine py 2 94 HT_ ?_
                    refine py 3 95 HT_ ?_
                    refine py 4 96 HT_ ?_
                    refine py 5 97 HT_ ?_
                    refine py 6 98 HT_ ?_
                    refine py 7 99 HT_ ?_
                    refine py 9 101 HT_ ?_
                    refine py 10 102 HT_ ?_
                    refine ty 8 100 HT_ HW_ rfl (Or.inl ⟨by rfl, by rintro w' ⟨s0, s1, s2, s3, s4, s5, s6, s7, s8, s9⟩; go_simp; with_reducible rfl⟩) hHeld ?_
                    refine py 11 103 HT_ ?_
                    refine ty 12 104 HT_ HW_ rfl (Or.inl ⟨by rfl, by rintro w' ⟨s0, s1, s2, s3, s4, s5, s6, s7, s8, s9⟩; go_simp; with_reducible rfl⟩) hHeld ?_
                    refine ty 13 105 HT_ HW_ rfl (Or.inl ⟨by rfl, by rintro w' ⟨s0, s1, s2, s3, s4, s5, s6, s7, s8, s9⟩; go_simp; with_reducible rfl⟩) hHeld ?_
                    refine one_ (i := 14) (N := some 106) #[true, true, true, true, true, true, true, true, true, true, true, true, true, true, true, false, false, false] rfl rfl (one_of HT_.out (by kernel_rfl)) (by decide) (fun K hK => ?_)
                    refine goes_ Try.func32 (by kernel_rfl) rfl #[.agg #[.int .u32 ((rd_T56 l0_5 (ji61)).f0), .int .i64 ((rd_T56 l0_5 (ji61)).f1)], .agg #[.int .u32 ((rd_T56 l0_5 x87_4).f0), .int .i64 ((rd_T56 l0_5 x87_4).f1)]] (by rfl) rfl rfl (by (try simp only [List.map_toArray, List.map_cons, List.map_nil]); first | done | (simp only [hji61]; rfl) | rfl | (simp only [List.length_drop, List.length_take]; rfl)) ?_
                    with_reducible refine (lsa_less.calls ((rd_T56 l0_5 (ji61)).f0) ((rd_T56 l0_5 (ji61)).f1) ((rd_T56 l0_5 x87_4).f0) ((rd_T56 l0_5 x87_4).f1) t121 _ A64.out).mono ?_
                    rintro e w68 ⟨rfl, hb⟩
                    refine ⟨_, rfl, ?_⟩
                    replace BK109 := bb_ BK109 hb
                    replace BK118 := bb_ BK118 hb
                    replace HB := Aside0.mk (below_step (by repeat (first | (with_reducible first | exact HB.out | apply bU | apply bS GE109.out | apply bS GE118.out) | exact HB.out)) hb)
                    (try clear hb)
                    refine hK.out _ _ ⟨(blk_cell BK118.out 0).trans rfl, (blk_cell BK118.out 1).trans rfl, (blk_cell BK109.out 0).trans rfl, (blk_cell BK109.out 1).trans rfl, (blk_cell BK109.out 2).trans rfl, (blk_cell BK109.out 3).trans rfl, (blk_cell BK109.out 4).trans rfl, (blk_cell BK109.out 5).trans rfl, ((HB.out.cell (World.block_lt_of_cell? w _ hw120_0)).trans hw120_0), ((HB.out.cell (World.block_lt_of_cell? w _ hw120_1)).trans hw120_1)⟩ (fun hHeld => ?_)
                    clear hK K
                    refine norm_ (a' := ?_) ?_ ?_
                    rotate_left
                    ·show Act.put _ (some 106) _ = _
                     simp only [Act.put, List.setIfInBounds_toArray, List.set_cons_zero, List.set_cons_succ, i64_w, i32_w]
                     rfl
                    refine py 15 107 HT_ ?_
                    refine py 16 108 HT_ ?_
                    refine py 17 109 HT_ ?_
                    refine done_ (done_of HT_.out (by kernel_rfl)) ?_
                    try go_wp2
                    go_meet
                    case rel => exact ⟨_, (!t121), (by first | rfl | (simp; done) | (simp [*]; done)), H', ⟨by have := HJ1.out; have := HJ16.out; have := HK3.out; have := HK4.out; first | omega | exact Nat.le_refl _⟩, ⟨kb_ BK109⟩, ⟨kb_ BK118⟩, ⟨by repeat (first | (with_reducible first | exact HB.out | apply bU | apply bS GE109.out | apply bS GE118.out) | exact HB.out)⟩⟩
                   ·rw [if_neg c63] at H
                    exact absurd H (by simp)
                  ·rw [if_neg c62] at H
                   exact absurd H (by simp)
                 ·rw [if_neg c60] at H
                  have c60b0 : decide (0 < x87_4) = false := decide_eq_false c60
                  clear c60
                  (first | rw [c60b0] | (simp only [i64_w, i32_w]; rw [c60b0]) | skip)
                  have H' := Aside0.mk H
                  clear H
                  try go_wp2
                  have n0_ : Aside0 (((w55.setCell ⟨gb118, 0, none⟩ (.int .u32 ((rd_T56 l0_5 x87_4).f0))).setCell ⟨gb118, 1, none⟩ (.int .i64 ((rd_T56 l0_5 x87_4).f1))).heap[gb109]? = some (.cells #[.int .i64 a0_0, .int .i64 a0_1, .int .i64 a0_2, .bool a0_3, .slice A0_4 l0_4.length c0_4, .slice (some ad117) l0_5.length c0_5] 25 (0, 0))) := ⟨by (with_reducible repeat (first | refine blk_drewN ?_ _ | refine blk_drew ?_ | refine blk_alloc ?_ _)); refine blk_far ?_ NB109_118.out _; (with_reducible repeat (first | refine blk_drewN ?_ _ | refine blk_drew ?_ | refine blk_alloc ?_ _)); refine blk_far ?_ NB109_118.out _; (with_reducible repeat (first | refine blk_drewN ?_ _ | refine blk_drew ?_ | refine blk_alloc ?_ _)); exact BK109.out⟩
                  have n1_ : Aside0 (((w55.setCell ⟨gb118, 0, none⟩ (.int .u32 ((rd_T56 l0_5 x87_4).f0))).setCell ⟨gb118, 1, none⟩ (.int .i64 ((rd_T56 l0_5 x87_4).f1))).heap[gb118]? = some (.cells #[.int .u32 ((rd_T56 l0_5 x87_4).f0), .int .i64 ((rd_T56 l0_5 x87_4).f1)] 56 (0, 0))) := ⟨by (with_reducible repeat (first | refine blk_drewN ?_ _ | refine blk_drew ?_ | refine blk_alloc ?_ _)); refine blk_put (cs := #[.int .u32 ((rd_T56 l0_5 x87_4).f0), .int .i64 0]) ?_ 1 _ rfl; (with_reducible repeat (first | refine blk_drewN ?_ _ | refine blk_drew ?_ | refine blk_alloc ?_ _)); refine blk_put (cs := #[.int .u32 0, .int .i64 0]) ?_ 0 _ rfl; (with_reducible repeat (first | refine blk_drewN ?_ _ | refine blk_drew ?_ | refine blk_alloc ?_ _)); exact BK118.out⟩
                  have n2_ : Aside0 (Below w.heap.size w ((w55.setCell ⟨gb118, 0, none⟩ (.int .u32 ((rd_T56 l0_5 x87_4).f0))).setCell ⟨gb118, 1, none⟩ (.int .i64 ((rd_T56 l0_5 x87_4).f1)))) := ⟨by repeat (first | (with_reducible first | exact HB.out | apply bU | apply bS GE109.out | apply bS GE118.out) | exact HB.out)⟩
                  (try clear BK109)
                  (try clear BK118)
                  (try clear HB)
                  generalize ((w55.setCell ⟨gb118, 0, none⟩ (.int .u32 ((rd_T56 l0_5 x87_4).f0))).setCell ⟨gb118, 1, none⟩ (.int .i64 ((rd_T56 l0_5 x87_4).f1))) = w69 at n0_ n1_ n2_ ⊢
                  have BK109 := n0_
                  have BK118 := n1_
                  have HB := n2_
                  clear n0_ n1_ n2_
                  replace BK109 := Aside0.mk (blk_drew BK109.out)
                  replace BK118 := Aside0.mk (blk_drew BK118.out)
                  replace HB := Aside0.mk (below_drew1 HB.out)
                  refine start_ (n := 18) (S := fun w' => w'.cell? ⟨gb118, 0, none⟩ = some (.int .u32 ((rd_T56 l0_5 x87_4).f0)) ∧ w'.cell? ⟨gb118, 1, none⟩ = some (.int .i64 ((rd_T56 l0_5 x87_4).f1))) (ds := []) #[false, false, false, false, false, false, false, false, false, false, false, false, false, false, false, false, false, false] (by kernel_rfl) rfl rfl ⟨(blk_cell BK118.out 0).trans rfl, (blk_cell BK118.out 1).trans rfl⟩ (fun hHeld => ?_); refine with_tabW lsa_Valid.tab14 lsa_Valid.bits14 (fun HT_ HW_ => ?_)
                  generalize w69.drew = w70 at BK109 BK118 HB hHeld ⊢
                  refine ty 0 92 HT_ HW_ rfl (Or.inl ⟨by rfl, by rintro w' ⟨s0, s1⟩; go_simp; with_reducible rfl⟩) hHeld ?_
                  refine one_ (i := 1) (N := some 93) #[true, true, false, false, false, false, false, false, false, false, false, false, false, false, false, false, false, false] rfl rfl (one_of HT_.out (by kernel_rfl)) (by decide) (fun K hK => ?_)
                  refine goes_ Try.func31 (by kernel_rfl) rfl #[.agg #[.int .u32 ((rd_T56 l0_5 x87_4).f0), .int .i64 ((rd_T56 l0_5 x87_4).f1)]] (by rfl) rfl rfl (by (try simp only [List.map_toArray, List.map_cons, List.map_nil]); first | done | rfl | (simp only [List.length_drop, List.length_take]; rfl)) ?_
                  with_reducible refine (lsa_prefix.calls ((rd_T56 l0_5 x87_4).f0) ((rd_T56 l0_5 x87_4).f1) true _ A58.out).mono ?_
                  rintro e w71 ⟨rfl, hb⟩
                  refine ⟨_, rfl, ?_⟩
                  replace BK109 := bb_ BK109 hb
                  replace BK118 := bb_ BK118 hb
                  replace HB := Aside0.mk (below_step (by repeat (first | (with_reducible first | exact HB.out | apply bU | apply bS GE109.out | apply bS GE118.out) | exact HB.out)) hb)
                  (try clear hb)
                  refine hK.out _ _ ⟨(blk_cell BK118.out 0).trans rfl, (blk_cell BK118.out 1).trans rfl⟩ (fun hHeld => ?_)
                  clear hK K
                  refine norm_ (a' := ?_) ?_ ?_
                  rotate_left
                  ·show Act.put _ (some 93) _ = _
                   simp only [Act.put, List.setIfInBounds_toArray, List.set_cons_zero, List.set_cons_succ, i64_w, i32_w]
                   rfl
                  refine py 2 94 HT_ ?_
                  refine py 3 95 HT_ ?_
                  refine py 4 96 HT_ ?_
                  refine py 5 97 HT_ ?_
                  refine py 6 98 HT_ ?_
                  refine pu 7 99 HT_ ?_
                  refine pu 8 100 HT_ ?_
                  refine pu 9 101 HT_ ?_
                  refine pu 10 102 HT_ ?_
                  refine pu 11 103 HT_ ?_
                  refine pu 12 104 HT_ ?_
                  refine pu 13 105 HT_ ?_
                  refine pu 14 106 HT_ ?_
                  refine pu 15 107 HT_ ?_
                  refine py 16 108 HT_ ?_
                  refine py 17 109 HT_ ?_
                  refine done_ (done_of HT_.out (by kernel_rfl)) ?_
                  try go_wp2
                  go_meet
                  case rel => exact ⟨_, (false), (by first | rfl | (simp; done) | (simp [*]; done)), H', ⟨by have := HJ1.out; have := HJ16.out; have := HK3.out; have := HK4.out; first | omega | exact Nat.le_refl _⟩, ⟨kb_ BK109⟩, ⟨kb_ BK118⟩, ⟨by repeat (first | (with_reducible first | exact HB.out | apply bU | apply bS GE109.out | apply bS GE118.out) | exact HB.out)⟩⟩
                ·replace c59 := Bool.eq_false_iff.mpr c59
                 subst c59
                 have H1 : (lsa_Valid.j5 k4 l0_5 (l0_5.length : Int) x87_4 true a0_0 a0_1 a0_2 a0_3 l0_4 l0_5) = some r := by rw [if_neg (show ¬ (false = true) by decide)] at H; exact H
                 clear H
                 have H := H1
                 clear H1
                 have H' := Aside0.mk H
                 clear H
                 try go_wp2
                 have n0_ : Aside0 (((w55.setCell ⟨gb118, 0, none⟩ (.int .u32 ((rd_T56 l0_5 x87_4).f0))).setCell ⟨gb118, 1, none⟩ (.int .i64 ((rd_T56 l0_5 x87_4).f1))).heap[gb109]? = some (.cells #[.int .i64 a0_0, .int .i64 a0_1, .int .i64 a0_2, .bool a0_3, .slice A0_4 l0_4.length c0_4, .slice (some ad117) l0_5.length c0_5] 25 (0, 0))) := ⟨by (with_reducible repeat (first | refine blk_drewN ?_ _ | refine blk_drew ?_ | refine blk_alloc ?_ _)); refine blk_far ?_ NB109_118.out _; (with_reducible repeat (first | refine blk_drewN ?_ _ | refine blk_drew ?_ | refine blk_alloc ?_ _)); refine blk_far ?_ NB109_118.out _; (with_reducible repeat (first | refine blk_drewN ?_ _ | refine blk_drew ?_ | refine blk_alloc ?_ _)); exact BK109.out⟩
                 have n1_ : Aside0 (((w55.setCell ⟨gb118, 0, none⟩ (.int .u32 ((rd_T56 l0_5 x87_4).f0))).setCell ⟨gb118, 1, none⟩ (.int .i64 ((rd_T56 l0_5 x87_4).f1))).heap[gb118]? = some (.cells #[.int .u32 ((rd_T56 l0_5 x87_4).f0), .int .i64 ((rd_T56 l0_5 x87_4).f1)] 56 (0, 0))) := ⟨by (with_reducible repeat (first | refine blk_drewN ?_ _ | refine blk_drew ?_ | refine blk_alloc ?_ _)); refine blk_put (cs := #[.int .u32 ((rd_T56 l0_5 x87_4).f0), .int .i64 0]) ?_ 1 _ rfl; (with_reducible repeat (first | refine blk_drewN ?_ _ | refine blk_drew ?_ | refine blk_alloc ?_ _)); refine blk_put (cs := #[.int .u32 0, .int .i64 0]) ?_ 0 _ rfl; (with_reducible repeat (first | refine blk_drewN ?_ _ | refine blk_drew ?_ | refine blk_alloc ?_ _)); exact BK118.out⟩
                 have n2_ : Aside0 (Below w.heap.size w ((w55.setCell ⟨gb118, 0, none⟩ (.int .u32 ((rd_T56 l0_5 x87_4).f0))).setCell ⟨gb118, 1, none⟩ (.int .i64 ((rd_T56 l0_5 x87_4).f1)))) := ⟨by repeat (first | (with_reducible first | exact HB.out | apply bU | apply bS GE109.out | apply bS GE118.out) | exact HB.out)⟩
                 (try clear BK109)
                 (try clear BK118)
                 (try clear HB)
                 generalize ((w55.setCell ⟨gb118, 0, none⟩ (.int .u32 ((rd_T56 l0_5 x87_4).f0))).setCell ⟨gb118, 1, none⟩ (.int .i64 ((rd_T56 l0_5 x87_4).f1))) = w72 at n0_ n1_ n2_ ⊢
                 have BK109 := n0_
                 have BK118 := n1_
                 have HB := n2_
                 clear n0_ n1_ n2_
                 replace BK109 := Aside0.mk (blk_drew BK109.out)
                 replace BK118 := Aside0.mk (blk_drew BK118.out)
                 replace HB := Aside0.mk (below_drew1 HB.out)
                 refine start_ (n := 18) (S := fun w' => w'.cell? ⟨gb118, 0, none⟩ = some (.int .u32 ((rd_T56 l0_5 x87_4).f0)) ∧ w'.cell? ⟨gb118, 1, none⟩ = some (.int .i64 ((rd_T56 l0_5 x87_4).f1))) (ds := []) #[false, false, false, false, false, false, false, false, false, false, false, false, false, false, false, false, false, false] (by kernel_rfl) rfl rfl ⟨(blk_cell BK118.out 0).trans rfl, (blk_cell BK118.out 1).trans rfl⟩ (fun hHeld => ?_); refine with_tabW lsa_Valid.tab14 lsa_Valid.bits14 (fun HT_ HW_ => ?_)
                 generalize w72.drew = w73 at BK109 BK118 HB hHeld ⊢
                 refine ty 0 92 HT_ HW_ rfl (Or.inl ⟨by rfl, by rintro w' ⟨s0, s1⟩; go_simp; with_reducible rfl⟩) hHeld ?_
                 refine one_ (i := 1) (N := some 93) #[true, true, false, false, false, false, false, false, false, false, false, false, false, false, false, false, false, false] rfl rfl (one_of HT_.out (by kernel_rfl)) (by decide) (fun K hK => ?_)
                 refine goes_ Try.func31 (by kernel_rfl) rfl #[.agg #[.int .u32 ((rd_T56 l0_5 x87_4).f0), .int .i64 ((rd_T56 l0_5 x87_4).f1)]] (by rfl) rfl rfl (by (try simp only [List.map_toArray, List.map_cons, List.map_nil]); first | done | rfl | (simp only [List.length_drop, List.length_take]; rfl)) ?_
                 with_reducible refine (lsa_prefix.calls ((rd_T56 l0_5 x87_4).f0) ((rd_T56 l0_5 x87_4).f1) false _ A58.out).mono ?_
                 rintro e w74 ⟨rfl, hb⟩
                 refine ⟨_, rfl, ?_⟩
                 replace BK109 := bb_ BK109 hb
                 replace BK118 := bb_ BK118 hb
                 replace HB := Aside0.mk (below_step (by repeat (first | (with_reducible first | exact HB.out | apply bU | apply bS GE109.out | apply bS GE118.out) | exact HB.out)) hb)
                 (try clear hb)
                 refine hK.out _ _ ⟨(blk_cell BK118.out 0).trans rfl, (blk_cell BK118.out 1).trans rfl⟩ (fun hHeld => ?_)
                 clear hK K
                 refine norm_ (a' := ?_) ?_ ?_
                 rotate_left
                 ·show Act.put _ (some 93) _ = _
                  simp only [Act.put, List.setIfInBounds_toArray, List.set_cons_zero, List.set_cons_succ, i64_w, i32_w]
                  rfl
                 refine py 2 94 HT_ ?_
                 refine py 3 95 HT_ ?_
                 refine pu 4 96 HT_ ?_
                 refine pu 5 97 HT_ ?_
                 refine pu 6 98 HT_ ?_
                 refine pu 7 99 HT_ ?_
                 refine pu 8 100 HT_ ?_
                 refine pu 9 101 HT_ ?_
                 refine pu 10 102 HT_ ?_
                 refine pu 11 103 HT_ ?_
                 refine pu 12 104 HT_ ?_
                 refine pu 13 105 HT_ ?_
                 refine pu 14 106 HT_ ?_
                 refine pu 15 107 HT_ ?_
                 refine pu 16 108 HT_ ?_
                 refine py 17 109 HT_ ?_
                 refine done_ (done_of HT_.out (by kernel_rfl)) ?_
                 try go_wp2
                 go_meet
                 case rel => exact ⟨_, (true), (by first | rfl | (simp; done) | (simp [*]; done)), H', ⟨by have := HJ1.out; have := HJ16.out; have := HK3.out; have := HK4.out; first | omega | exact Nat.le_refl _⟩, ⟨kb_ BK109⟩, ⟨kb_ BK118⟩, ⟨by repeat (first | (with_reducible first | exact HB.out | apply bU | apply bS GE109.out | apply bS GE118.out) | exact HB.out)⟩⟩
               case rest =>
                clear HC54
                (try clear c51); (try clear c51b0); (try clear c52); (try clear c52b0); (try clear c53); (try clear c53b0); (try clear hcz57_0); (try clear hcz57_1); (try clear hfz57_0); (try clear hfz57_1); (try clear hx117_0); (try clear hx117_1); (try clear p117); (try clear q117)
                obtain ⟨kq, x109_53, rfl, HA, HJ53, BK109, BK118, HB⟩ := hcut
                cases kq with
                | zero => exact absurd HA.out (by simp [lsa_Valid.j5])
                | succ kj53 =>
                 have H := HA.out
                 clear HA
                 simp only [lsa_Valid.j5] at H
                 by_cases c75 : x109_53 = true
                 ·subst c75
                  have H1 : (some false) = some r := by rw [if_pos rfl] at H; exact H
                  clear H
                  have H := H1
                  clear H1
                  obtain rfl := Option.some.inj H
                  go_wp2
                  go_ret
                  exact ⟨by first | rfl | (simp [errW_none, errW_some] <;> rfl) | (simp [*, errW_none, errW_some] <;> rfl), by repeat (first | (with_reducible first | exact HB.out | apply bU | apply bS GE109.out | apply bS GE118.out) | exact HB.out)⟩
                 ·replace c75 := Bool.eq_false_iff.mpr c75
                  subst c75
                  have H1 : (lsa_Valid.l1 kj53 l0_5 (l0_5.length : Int) (wrap64 (x87_4 + 1)) a0_0 a0_1 a0_2 a0_3 l0_4 l0_5) = some r := by rw [if_neg (show ¬ (false = true) by decide)] at H; exact H
                  clear H
                  have H := H1
                  clear H1
                  have H' := Aside0.mk H
                  clear H
                  go_wp2
                  go_roundg kj53
                  case measure => have := HJ1.out; have := HJ16.out; have := HK3.out; have := HK4.out; have := HJ53.out; omega
                  case rel => exact ⟨(wrap64 (x87_4 + 1)), (by first | rfl | (simp; done) | (simp [*]; done)), H', ⟨by have := HJ1.out; have := HJ16.out; have := HK3.out; have := HK4.out; have := HJ53.out; omega⟩, ⟨kb_ BK109⟩, ⟨by repeat (first | (with_reducible first | exact HB.out | apply bU | apply bS GE109.out | apply bS GE118.out) | exact HB.out)⟩⟩
              ·rw [if_neg c53] at H
               exact absurd H (by simp)
             ·rw [if_neg c52] at H
              exact absurd H (by simp)
            ·rw [if_neg c51] at H
             have c51b0 : decide (x87_4 < (l0_5.length : Int)) = false := decide_eq_false c51
             clear c51
             obtain rfl := Option.some.inj H
             go_wp2
             go_ret
             exact ⟨by first | rfl | (simp [errW_none, errW_some] <;> rfl) | (simp [*, errW_none, errW_some] <;> rfl), by repeat (first | (with_reducible first | exact HB.out | apply bU | apply bS GE109.out) | exact HB.out)⟩

end Go.Proofs.Ytmknjjfdlkgidaa.HLsc
