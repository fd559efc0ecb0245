-- LAID by wip/hand.py, a program of this repository, over the kit's print: contracts of our own are put in. Lean checks it.
import Derived.Test.YtdkfhlfojleejaaHLscx0
import Derived.Test.YtdkfhlfojleejaaHLscx3
namespace Go.Proofs.Ytdkfhlfojleejaa.HLsc
open Go.RowKit Go.Proofs.YtdkfhlfojleejaaW.PrintWords Go.Proofs.YtdkfhlfojleejaaW.PrintLast Go.Proofs.YtdkfhlfojleejaaW.PrintMore
attribute [local go_sem] gtr_str leq_str max2_int min2_int max_two min_two max_three min_three max_four min_four   -- for this text's walks alone
set_option linter.unusedVariables false
set_option linter.unusedSimpArgs false

/-! ### lsa_Valid: function 20 -/
mutual
def lsa_Valid.j0 : Nat → Bool → Int → Int → Int → Bool → List (S72) → List (S76) → Option (Bool)
 | 0, _, _, _, _, _, _, _ => none
 | k + 1, x34, x122000, x122001, x122002, x122003, x122004, x122005 => if x34 = true then (some false) else (if x122002 = 3600 then (if x122003 = true then (lsa_Valid.j1 k true x122000 x122001 x122002 x122003 x122004 x122005) else (if (x122004.length : Int) > 0 then (lsa_Valid.j1 k true x122000 x122001 x122002 x122003 x122004 x122005) else (lsa_Valid.j1 k (decide ((x122005.length : Int) > 0)) x122000 x122001 x122002 x122003 x122004 x122005))) else (lsa_Valid.j1 k false x122000 x122001 x122002 x122003 x122004 x122005))
def lsa_Valid.j1 : Nat → Bool → Int → Int → Int → Bool → List (S72) → List (S76) → Option (Bool)
 | 0, _, _, _, _, _, _, _ => none
 | k + 1, x53, x122000, x122001, x122002, x122003, x122004, x122005 => if x53 = true then (some false) else (lsa_Valid.l0 k x122004 (x122004.length : Int) 0 x122000 x122001 x122002 x122003 x122004 x122005)
def lsa_Valid.l0 : Nat → List (S72) → Int → Int → Int → Int → Int → Bool → List (S72) → List (S76) → Option (Bool)
 | 0, _, _, _, _, _, _, _, _, _ => none
 | k + 1, x55, x56, x57, x122000, x122001, x122002, x122003, x122004, x122005 => if x57 < x56 then (if 0 ≤ x57 then (if x57 < (x55.length : Int) then ((lsa_adjacency.f x122000 ((rd_T72 x55 x57).f0) ((rd_T72 x55 x57).f1) ((rd_T72 x55 x57).f2)).bind fun t127 => (if t127 = true then (if x57 > 0 then (if 0 ≤ (wrap64 (x57 - 1)) then (if (wrap64 (x57 - 1)) < (x122004.length : Int) then (lsa_Valid.j3 k x55 x56 x57 (decide (((rd_T72 x122004 (wrap64 (x57 - 1))).f1) ≥ ((rd_T72 x55 x57).f1))) x122000 x122001 x122002 x122003 x122004 x122005) else (none)) else (none)) else (lsa_Valid.j3 k x55 x56 x57 false x122000 x122001 x122002 x122003 x122004 x122005)) else (lsa_Valid.j3 k x55 x56 x57 true x122000 x122001 x122002 x122003 x122004 x122005))) else (none)) else (none)) else (lsa_Valid.l1 k x122005 (x122005.length : Int) 0 x122000 x122001 x122002 x122003 x122004 x122005)
def lsa_Valid.j3 : Nat → List (S72) → Int → Int → Bool → Int → Int → Int → Bool → List (S72) → List (S76) → Option (Bool)
 | 0, _, _, _, _, _, _, _, _, _, _ => none
 | k + 1, x55, x56, x57, x82, x122000, x122001, x122002, x122003, x122004, x122005 => if x82 = true then (some false) else (lsa_Valid.l0 k x55 x56 (wrap64 (x57 + 1)) x122000 x122001 x122002 x122003 x122004 x122005)
def lsa_Valid.l1 : Nat → List (S76) → Int → Int → Int → Int → Int → Bool → List (S72) → List (S76) → Option (Bool)
 | 0, _, _, _, _, _, _, _, _, _ => none
 | k + 1, x85, x86, x87, x122000, x122001, x122002, x122003, x122004, x122005 => if x87 < x86 then (if 0 ≤ x87 then (if x87 < (x85.length : Int) then ((lsa_prefix.f ((rd_T76 x85 x87).f0) ((rd_T76 x85 x87).f1)).bind fun t131 => (if t131 = true then (if x87 > 0 then (if 0 ≤ (wrap64 (x87 - 1)) then (if (wrap64 (x87 - 1)) < (x122005.length : Int) then ((lsa_less.f ((rd_T76 x122005 (wrap64 (x87 - 1))).f0) ((rd_T76 x122005 (wrap64 (x87 - 1))).f1) ((rd_T76 x85 x87).f0) ((rd_T76 x85 x87).f1)).bind fun t133 => (lsa_Valid.j5 k x85 x86 x87 (!t133) x122000 x122001 x122002 x122003 x122004 x122005)) else (none)) else (none)) else (lsa_Valid.j5 k x85 x86 x87 false x122000 x122001 x122002 x122003 x122004 x122005)) else (lsa_Valid.j5 k x85 x86 x87 true x122000 x122001 x122002 x122003 x122004 x122005))) else (none)) else (none)) else (some true)
def lsa_Valid.j5 : Nat → List (S76) → Int → Int → Bool → Int → Int → Int → Bool → List (S72) → List (S76) → Option (Bool)
 | 0, _, _, _, _, _, _, _, _, _, _ => none
 | k + 1, x85, x86, x87, x109, x122000, x122001, x122002, x122003, x122004, x122005 => if x109 = true then (some false) else (lsa_Valid.l1 k x85 x86 (wrap64 (x87 + 1)) x122000 x122001 x122002 x122003 x122004 x122005)
end
def lsa_Valid.f (k : Nat) (a0_0 : Int) (a0_1 : Int) (a0_2 : Int) (a0_3 : Bool) (l0_4 : List (S72)) (l0_5 : List (S76)) : Option (Bool) := (lsa_within.f a0_0 0 63).bind fun t122 => (if t122 = true then ((lsa_within.f a0_1 1 1073741824).bind fun t123 => (if t123 = true then ((lsa_within.f a0_2 0 3600).bind fun t124 => (if t124 = true then (if (l0_4.length : Int) > 256 then (lsa_Valid.j0 k true a0_0 a0_1 a0_2 a0_3 l0_4 l0_5) else (lsa_Valid.j0 k (decide ((l0_5.length : Int) > 64)) a0_0 a0_1 a0_2 a0_3 l0_4 l0_5)) else (lsa_Valid.j0 k true a0_0 a0_1 a0_2 a0_3 l0_4 l0_5))) else (lsa_Valid.j0 k true a0_0 a0_1 a0_2 a0_3 l0_4 l0_5))) else (lsa_Valid.j0 k true a0_0 a0_1 a0_2 a0_3 l0_4 l0_5))
theorem lsa_Valid.mono_l : ∀ k, (∀ y0 y1 y2 y3 y4 y5 y6, LeO (lsa_Valid.j0 k y0 y1 y2 y3 y4 y5 y6) (lsa_Valid.j0 (k + 1) y0 y1 y2 y3 y4 y5 y6)) ∧ (∀ y0 y1 y2 y3 y4 y5 y6, LeO (lsa_Valid.j1 k y0 y1 y2 y3 y4 y5 y6) (lsa_Valid.j1 (k + 1) y0 y1 y2 y3 y4 y5 y6)) ∧ (∀ y0 y1 y2 y3 y4 y5 y6 y7 y8, LeO (lsa_Valid.l0 k y0 y1 y2 y3 y4 y5 y6 y7 y8) (lsa_Valid.l0 (k + 1) y0 y1 y2 y3 y4 y5 y6 y7 y8)) ∧ (∀ y0 y1 y2 y3 y4 y5 y6 y7 y8 y9, LeO (lsa_Valid.j3 k y0 y1 y2 y3 y4 y5 y6 y7 y8 y9) (lsa_Valid.j3 (k + 1) y0 y1 y2 y3 y4 y5 y6 y7 y8 y9)) ∧ (∀ y0 y1 y2 y3 y4 y5 y6 y7 y8, LeO (lsa_Valid.l1 k y0 y1 y2 y3 y4 y5 y6 y7 y8) (lsa_Valid.l1 (k + 1) y0 y1 y2 y3 y4 y5 y6 y7 y8)) ∧ (∀ y0 y1 y2 y3 y4 y5 y6 y7 y8 y9, LeO (lsa_Valid.j5 k y0 y1 y2 y3 y4 y5 y6 y7 y8 y9) (lsa_Valid.j5 (k + 1) y0 y1 y2 y3 y4 y5 y6 y7 y8 y9))
 | 0 => ⟨fun _ _ _ _ _ _ _ r h => by simp [lsa_Valid.j0] at h, fun _ _ _ _ _ _ _ r h => by simp [lsa_Valid.j1] at h, fun _ _ _ _ _ _ _ _ _ r h => by simp [lsa_Valid.l0] at h, fun _ _ _ _ _ _ _ _ _ _ r h => by simp [lsa_Valid.j3] at h, fun _ _ _ _ _ _ _ _ _ r h => by simp [lsa_Valid.l1] at h, fun _ _ _ _ _ _ _ _ _ _ r h => by simp [lsa_Valid.j5] at h⟩
 | k + 1 => by
  obtain ⟨ih0, ih1, ih2, ih3, ih4, ih5⟩ := lsa_Valid.mono_l k
  refine ⟨?_, ?_, ?_, ?_, ?_, ?_⟩
  ·intro y0 y1 y2 y3 y4 y5 y6
   unfold lsa_Valid.j0
   repeat' first
   | (with_reducible exact ih0 _ _ _ _ _ _ _)
   | (with_reducible exact ih1 _ _ _ _ _ _ _)
   | (with_reducible exact ih2 _ _ _ _ _ _ _ _ _)
   | (with_reducible exact ih3 _ _ _ _ _ _ _ _ _ _)
   | (with_reducible exact ih4 _ _ _ _ _ _ _ _ _)
   | (with_reducible exact ih5 _ _ _ _ _ _ _ _ _ _)
   | (with_reducible exact LeO.refl _)
   | (with_reducible exact LeO.none _)
   | (with_reducible refine LeO.ite ?_ ?_)
   | (with_reducible refine LeO.bind ?_ (fun _ => ?_))
   | exact ih0 _ _ _ _ _ _ _
   | exact ih1 _ _ _ _ _ _ _
   | exact ih2 _ _ _ _ _ _ _ _ _
   | exact ih3 _ _ _ _ _ _ _ _ _ _
   | exact ih4 _ _ _ _ _ _ _ _ _
   | exact ih5 _ _ _ _ _ _ _ _ _ _
   | exact LeO.none _
   | refine LeO.ite ?_ ?_
   | refine LeO.bind ?_ (fun _ => ?_)
  ·intro y0 y1 y2 y3 y4 y5 y6
   unfold lsa_Valid.j1
   repeat' first
   | (with_reducible exact ih0 _ _ _ _ _ _ _)
   | (with_reducible exact ih1 _ _ _ _ _ _ _)
   | (with_reducible exact ih2 _ _ _ _ _ _ _ _ _)
   | (with_reducible exact ih3 _ _ _ _ _ _ _ _ _ _)
   | (with_reducible exact ih4 _ _ _ _ _ _ _ _ _)
   | (with_reducible exact ih5 _ _ _ _ _ _ _ _ _ _)
   | (with_reducible exact LeO.refl _)
   | (with_reducible exact LeO.none _)
   | (with_reducible refine LeO.ite ?_ ?_)
   | (with_reducible refine LeO.bind ?_ (fun _ => ?_))
   | exact ih0 _ _ _ _ _ _ _
   | exact ih1 _ _ _ _ _ _ _
   | exact ih2 _ _ _ _ _ _ _ _ _
   | exact ih3 _ _ _ _ _ _ _ _ _ _
   | exact ih4 _ _ _ _ _ _ _ _ _
   | exact ih5 _ _ _ _ _ _ _ _ _ _
   | exact LeO.none _
   | refine LeO.ite ?_ ?_
   | refine LeO.bind ?_ (fun _ => ?_)
  ·intro y0 y1 y2 y3 y4 y5 y6 y7 y8
   unfold lsa_Valid.l0
   repeat' first
   | (with_reducible exact ih0 _ _ _ _ _ _ _)
   | (with_reducible exact ih1 _ _ _ _ _ _ _)
   | (with_reducible exact ih2 _ _ _ _ _ _ _ _ _)
   | (with_reducible exact ih3 _ _ _ _ _ _ _ _ _ _)
   | (with_reducible exact ih4 _ _ _ _ _ _ _ _ _)
   | (with_reducible exact ih5 _ _ _ _ _ _ _ _ _ _)
   | (with_reducible exact LeO.refl _)
   | (with_reducible exact LeO.none _)
   | (with_reducible refine LeO.ite ?_ ?_)
   | (with_reducible refine LeO.bind ?_ (fun _ => ?_))
   | exact ih0 _ _ _ _ _ _ _
   | exact ih1 _ _ _ _ _ _ _
   | exact ih2 _ _ _ _ _ _ _ _ _
   | exact ih3 _ _ _ _ _ _ _ _ _ _
   | exact ih4 _ _ _ _ _ _ _ _ _
   | exact ih5 _ _ _ _ _ _ _ _ _ _
   | exact LeO.none _
   | refine LeO.ite ?_ ?_
   | refine LeO.bind ?_ (fun _ => ?_)
  ·intro y0 y1 y2 y3 y4 y5 y6 y7 y8 y9
   unfold lsa_Valid.j3
   repeat' first
   | (with_reducible exact ih0 _ _ _ _ _ _ _)
   | (with_reducible exact ih1 _ _ _ _ _ _ _)
   | (with_reducible exact ih2 _ _ _ _ _ _ _ _ _)
   | (with_reducible exact ih3 _ _ _ _ _ _ _ _ _ _)
   | (with_reducible exact ih4 _ _ _ _ _ _ _ _ _)
   | (with_reducible exact ih5 _ _ _ _ _ _ _ _ _ _)
   | (with_reducible exact LeO.refl _)
   | (with_reducible exact LeO.none _)
   | (with_reducible refine LeO.ite ?_ ?_)
   | (with_reducible refine LeO.bind ?_ (fun _ => ?_))
   | exact ih0 _ _ _ _ _ _ _
   | exact ih1 _ _ _ _ _ _ _
   | exact ih2 _ _ _ _ _ _ _ _ _
   | exact ih3 _ _ _ _ _ _ _ _ _ _
   | exact ih4 _ _ _ _ _ _ _ _ _
   | exact ih5 _ _ _ _ _ _ _ _ _ _
   | exact LeO.none _
   | refine LeO.ite ?_ ?_
   | refine LeO.bind ?_ (fun _ => ?_)
  ·intro y0 y1 y2 y3 y4 y5 y6 y7 y8
   unfold lsa_Valid.l1
   repeat' first
   | (with_reducible exact ih0 _ _ _ _ _ _ _)
   | (with_reducible exact ih1 _ _ _ _ _ _ _)
   | (with_reducible exact ih2 _ _ _ _ _ _ _ _ _)
   | (with_reducible exact ih3 _ _ _ _ _ _ _ _ _ _)
   | (with_reducible exact ih4 _ _ _ _ _ _ _ _ _)
   | (with_reducible exact ih5 _ _ _ _ _ _ _ _ _ _)
   | (with_reducible exact LeO.refl _)
   | (with_reducible exact LeO.none _)
   | (with_reducible refine LeO.ite ?_ ?_)
   | (with_reducible refine LeO.bind ?_ (fun _ => ?_))
   | exact ih0 _ _ _ _ _ _ _
   | exact ih1 _ _ _ _ _ _ _
   | exact ih2 _ _ _ _ _ _ _ _ _
   | exact ih3 _ _ _ _ _ _ _ _ _ _
   | exact ih4 _ _ _ _ _ _ _ _ _
   | exact ih5 _ _ _ _ _ _ _ _ _ _
   | exact LeO.none _
   | refine LeO.ite ?_ ?_
   | refine LeO.bind ?_ (fun _ => ?_)
  ·intro y0 y1 y2 y3 y4 y5 y6 y7 y8 y9
   unfold lsa_Valid.j5
   repeat' first
   | (with_reducible exact ih0 _ _ _ _ _ _ _)
   | (with_reducible exact ih1 _ _ _ _ _ _ _)
   | (with_reducible exact ih2 _ _ _ _ _ _ _ _ _)
   | (with_reducible exact ih3 _ _ _ _ _ _ _ _ _ _)
   | (with_reducible exact ih4 _ _ _ _ _ _ _ _ _)
   | (with_reducible exact ih5 _ _ _ _ _ _ _ _ _ _)
   | (with_reducible exact LeO.refl _)
   | (with_reducible exact LeO.none _)
   | (with_reducible refine LeO.ite ?_ ?_)
   | (with_reducible refine LeO.bind ?_ (fun _ => ?_))
   | exact ih0 _ _ _ _ _ _ _
   | exact ih1 _ _ _ _ _ _ _
   | exact ih2 _ _ _ _ _ _ _ _ _
   | exact ih3 _ _ _ _ _ _ _ _ _ _
   | exact ih4 _ _ _ _ _ _ _ _ _
   | exact ih5 _ _ _ _ _ _ _ _ _ _
   | exact LeO.none _
   | refine LeO.ite ?_ ?_
   | refine LeO.bind ?_ (fun _ => ?_)
theorem lsa_Valid.mono : ∀ a0 a1 a2 a3 a4 a5 k, LeO (lsa_Valid.f k a0 a1 a2 a3 a4 a5) (lsa_Valid.f (k + 1) a0 a1 a2 a3 a4 a5) := by
 intro a0 a1 a2 a3 a4 a5 k
 obtain ⟨ih0, ih1, ih2, ih3, ih4, ih5⟩ := lsa_Valid.mono_l k
 unfold lsa_Valid.f
 repeat' first
   | (with_reducible exact ih0 _ _ _ _ _ _ _)
   | (with_reducible exact ih1 _ _ _ _ _ _ _)
   | (with_reducible exact ih2 _ _ _ _ _ _ _ _ _)
   | (with_reducible exact ih3 _ _ _ _ _ _ _ _ _ _)
   | (with_reducible exact ih4 _ _ _ _ _ _ _ _ _)
   | (with_reducible exact ih5 _ _ _ _ _ _ _ _ _ _)
   | (with_reducible exact LeO.refl _)
   | (with_reducible exact LeO.none _)
   | (with_reducible refine LeO.ite ?_ ?_)
   | (with_reducible refine LeO.bind ?_ (fun _ => ?_))
   | exact ih0 _ _ _ _ _ _ _
   | exact ih1 _ _ _ _ _ _ _
   | exact ih2 _ _ _ _ _ _ _ _ _
   | exact ih3 _ _ _ _ _ _ _ _ _ _
   | exact ih4 _ _ _ _ _ _ _ _ _
   | exact ih5 _ _ _ _ _ _ _ _ _ _
   | exact LeO.none _
   | refine LeO.ite ?_ ?_
   | refine LeO.bind ?_ (fun _ => ?_)
def lsa_Valid.T8 : Bool × List (List Nat × List Nat) := (true, [([], []), ([0], [0]), ([], []), ([1, 2], [1, 2]), ([3], [3]), ([4, 3], [4]), ([5], [5]), ([6, 5], [5, 6]), ([7, 5, 5], [5, 7]), ([8], [8]), ([9, 8], [8, 9]), ([8], [8]), ([11, 8], [8, 11]), ([10, 12, 8], [8, 10, 12]), ([13, 8], [8, 13]), ([14, 8], [8, 14]), ([8], [8]), ([16, 8], [8, 16]), ([15, 17, 8], [8, 15, 17]), ([8, 18, 5], [5, 8, 18]), ([5, 19], [5, 19])])
def lsa_Valid.B8 : List Nat := [0, 1, 0, 7, 15, 31, 63, 127, 255, 511, 1023, 511, 2559, 8191, 16383, 32767, 511, 66047, 262143, 524287, 1048575]
theorem lsa_Valid.tab8 : rtab .any (opsOf Try.f20 8) = lsa_Valid.T8 := by kernel_rfl
theorem lsa_Valid.bits8 : waitsOk lsa_Valid.T8.2 lsa_Valid.B8 = true := by kernel_rfl
def lsa_Valid.T14 : Bool × List (List Nat × List Nat) := (true, [([], []), ([0], [0]), ([1], [1]), ([2, 1], [2]), ([3], [3]), ([4, 3], [3, 4]), ([5, 3, 3], [3, 5]), ([6], [6]), ([7, 6], [6, 7]), ([6], [6]), ([9, 6], [6, 9]), ([8, 10, 6], [6, 8, 10]), ([11, 6], [6, 11]), ([6], [6]), ([12, 13, 6, 6], [6, 12, 13]), ([14, 6], [6, 14]), ([6, 15, 3], [3, 6, 15]), ([3, 16], [3, 16])])
def lsa_Valid.B14 : List Nat := [0, 1, 3, 7, 15, 31, 63, 127, 255, 127, 639, 2047, 4095, 127, 16383, 32767, 65535, 131071]
theorem lsa_Valid.tab14 : rtab .any (opsOf Try.f20 14) = lsa_Valid.T14 := by kernel_rfl
theorem lsa_Valid.bits14 : waitsOk lsa_Valid.T14.2 lsa_Valid.B14 = true := by kernel_rfl
set_option maxHeartbeats 8000000 in
set_option maxRecDepth 100000 in
theorem lsa_Valid.calls (k : Nat) (a0_0 : Int) (a0_1 : Int) (a0_2 : Int) (a0_3 : Bool) (A0_4 : Option Addr) (c0_4 : Nat) (l0_4 : List (S72)) (A0_5 : Option Addr) (c0_5 : Nat) (l0_5 : List (S76)) (r : Bool) (w : World) (hr0_4 : Kd.C k72 w A0_4 l0_4.length l0_4) (hc0_4 : l0_4.length ≤ c0_4) (hr0_5 : Kd.C k76 w A0_5 l0_5.length l0_5) (hc0_5 : l0_5.length ≤ c0_5) (h : lsa_Valid.f k a0_0 a0_1 a0_2 a0_3 l0_4 l0_5 = some r) :
  Calls Try.prog 20 #[.agg #[.int .i64 a0_0, .int .i64 a0_1, .int .i64 a0_2, .bool a0_3, .slice A0_4 l0_4.length c0_4, .slice A0_5 l0_5.length c0_5]] w fun e w' => e = .returned (.bool r) ∧ Below w.heap.size w w' := by
 have hu32 := Try.underlying32
 have hu72 := Try.underlying72
 have hu76 := Try.underlying76
 have HR0_4 := Aside0.mk hr0_4
 have HC0_4 := Aside0.mk hc0_4
 clear hr0_4 hc0_4
 have HR0_5 := Aside0.mk hr0_5
 have HC0_5 := Aside0.mk hc0_5
 clear hr0_5 hc0_5
 have HB := Aside0.mk (Below.refl w.heap.size w)
 have H : ((lsa_within.f a0_0 0 63).bind fun t122 => (if t122 = true then ((lsa_within.f a0_1 1 1073741824).bind fun t123 => (if t123 = true then ((lsa_within.f a0_2 0 3600).bind fun t124 => (if t124 = true then (if (l0_4.length : Int) > 256 then (lsa_Valid.j0 k true a0_0 a0_1 a0_2 a0_3 l0_4 l0_5) else (lsa_Valid.j0 k (decide ((l0_5.length : Int) > 64)) a0_0 a0_1 a0_2 a0_3 l0_4 l0_5)) else (lsa_Valid.j0 k true a0_0 a0_1 a0_2 a0_3 l0_4 l0_5))) else (lsa_Valid.j0 k true a0_0 a0_1 a0_2 a0_3 l0_4 l0_5))) else (lsa_Valid.j0 k true a0_0 a0_1 a0_2 a0_3 l0_4 l0_5))) = some r := h
 clear h
 have HC2 := Aside0.mk H
 clear H
 go_enter Try.func20, Try.ntmps20
 go_upto_region 1 with (first | ((with_reducible refine gate_dst (N := 1) rfl ?_); (try (refine gate_guard (by rfl) ?_; dsimp only)); refine box_event ?hg (N := 1) ?hd (cs := #[.int .i64 a0_0, .int .i64 a0_1, .int .i64 a0_2, .bool a0_3, .slice A0_4 l0_4.length c0_4, .slice A0_5 l0_5.length c0_5]) (t := 32) ?hr ?_; (case hd => rfl); (case hg => rfl); (case hr => first | (go_simp; done) | (go_simp; rfl)); intro gb121 hg w3 hbox hb; have BK121 := Aside0.mk (hbox); have GW121 := gs_ HB hg; have GE121 := gs_ HB hg; replace HB := bs_ HB hb; clear hb hbox hg))
 (try simp only [Act.put, List.setIfInBounds_toArray, List.set_cons_zero, List.set_cons_succ])
 go_cut [34] (fun v34 wc => ∃ (kq : Nat) (x34_1 : Bool), v34 = .bool x34_1 ∧ Aside0 (lsa_Valid.j0 kq x34_1 a0_0 a0_1 a0_2 a0_3 l0_4 l0_5 = some r) ∧ Aside0 (kq ≤ k) ∧ Aside0 (wc.heap[gb121]? = some (.cells #[.int .i64 a0_0, .int .i64 a0_1, .int .i64 a0_2, .bool a0_3, (.slice A0_4 l0_4.length c0_4), (.slice A0_5 l0_5.length c0_5)] 32 (0, 0))) ∧ Aside0 (Below w.heap.size w wc))
 case first =>
  have H := HC2.out
  clear HC2
  replace H := Option.bind_eq_some_iff.mp H
  obtain ⟨t122, A40, H⟩ := H
  replace H : (if t122 = true then ((lsa_within.f a0_1 1 1073741824).bind fun t123 => (if t123 = true then ((lsa_within.f a0_2 0 3600).bind fun t124 => (if t124 = true then (if (l0_4.length : Int) > 256 then (lsa_Valid.j0 k true a0_0 a0_1 a0_2 a0_3 l0_4 l0_5) else (lsa_Valid.j0 k (decide ((l0_5.length : Int) > 64)) a0_0 a0_1 a0_2 a0_3 l0_4 l0_5)) else (lsa_Valid.j0 k true a0_0 a0_1 a0_2 a0_3 l0_4 l0_5))) else (lsa_Valid.j0 k true a0_0 a0_1 a0_2 a0_3 l0_4 l0_5))) else (lsa_Valid.j0 k true a0_0 a0_1 a0_2 a0_3 l0_4 l0_5)) = some r := H
  have A4 := Aside0.mk A40
  clear A40
  by_cases c5 : t122 = true
  ·subst c5
   have H1 : ((lsa_within.f a0_1 1 1073741824).bind fun t123 => (if t123 = true then ((lsa_within.f a0_2 0 3600).bind fun t124 => (if t124 = true then (if (l0_4.length : Int) > 256 then (lsa_Valid.j0 k true a0_0 a0_1 a0_2 a0_3 l0_4 l0_5) else (lsa_Valid.j0 k (decide ((l0_5.length : Int) > 64)) a0_0 a0_1 a0_2 a0_3 l0_4 l0_5)) else (lsa_Valid.j0 k true a0_0 a0_1 a0_2 a0_3 l0_4 l0_5))) else (lsa_Valid.j0 k true a0_0 a0_1 a0_2 a0_3 l0_4 l0_5))) = some r := by rw [if_pos rfl] at H; exact H
   clear H
   have H := H1
   clear H1
   replace H := Option.bind_eq_some_iff.mp H
   obtain ⟨t123, A60, H⟩ := H
   replace H : (if t123 = true then ((lsa_within.f a0_2 0 3600).bind fun t124 => (if t124 = true then (if (l0_4.length : Int) > 256 then (lsa_Valid.j0 k true a0_0 a0_1 a0_2 a0_3 l0_4 l0_5) else (lsa_Valid.j0 k (decide ((l0_5.length : Int) > 64)) a0_0 a0_1 a0_2 a0_3 l0_4 l0_5)) else (lsa_Valid.j0 k true a0_0 a0_1 a0_2 a0_3 l0_4 l0_5))) else (lsa_Valid.j0 k true a0_0 a0_1 a0_2 a0_3 l0_4 l0_5)) = some r := H
   have A6 := Aside0.mk A60
   clear A60
   by_cases c7 : t123 = true
   ·subst c7
    have H1 : ((lsa_within.f a0_2 0 3600).bind fun t124 => (if t124 = true then (if (l0_4.length : Int) > 256 then (lsa_Valid.j0 k true a0_0 a0_1 a0_2 a0_3 l0_4 l0_5) else (lsa_Valid.j0 k (decide ((l0_5.length : Int) > 64)) a0_0 a0_1 a0_2 a0_3 l0_4 l0_5)) else (lsa_Valid.j0 k true a0_0 a0_1 a0_2 a0_3 l0_4 l0_5))) = some r := by rw [if_pos rfl] at H; exact H
    clear H
    have H := H1
    clear H1
    replace H := Option.bind_eq_some_iff.mp H
    obtain ⟨t124, A80, H⟩ := H
    replace H : (if t124 = true then (if (l0_4.length : Int) > 256 then (lsa_Valid.j0 k true a0_0 a0_1 a0_2 a0_3 l0_4 l0_5) else (lsa_Valid.j0 k (decide ((l0_5.length : Int) > 64)) a0_0 a0_1 a0_2 a0_3 l0_4 l0_5)) else (lsa_Valid.j0 k true a0_0 a0_1 a0_2 a0_3 l0_4 l0_5)) = some r := H
    have A8 := Aside0.mk A80
    clear A80
    by_cases c9 : t124 = true
    ·subst c9
     have H1 : (if (l0_4.length : Int) > 256 then (lsa_Valid.j0 k true a0_0 a0_1 a0_2 a0_3 l0_4 l0_5) else (lsa_Valid.j0 k (decide ((l0_5.length : Int) > 64)) a0_0 a0_1 a0_2 a0_3 l0_4 l0_5)) = some r := by rw [if_pos rfl] at H; exact H
     clear H
     have H := H1
     clear H1
     by_cases c10 : (l0_4.length : Int) > 256
     ·rw [if_pos c10] at H
      have c10b0 : decide (256 < (l0_4.length : Int)) = true := decide_eq_true c10
      have c10b1 : decide (256 < l0_4.length) = true := decide_eq_true (by omega)
      clear c10
      (first | rw [c10b0] | (simp only [i64_w, i32_w]; rw [c10b0]) | skip)
      have H' := Aside0.mk H
      clear H
      obtain ⟨hcz11_0, hcz11_1, hcz11_2, hcz11_3, hcz11_4, hcz11_5, hfz11_0, hfz11_1, hfz11_2, hfz11_3, hfz11_4, hfz11_5⟩ := c6_ BK121
      go_wp2_with (first | ((with_reducible refine gate_callee (f := 35) rfl ?_); refine goesL_ (some 9) rfl rfl Try.func35 (by kernel_rfl) rfl #[.int .i64 a0_0, .int .i64 0, .int .i64 63] rfl (by (try simp only [List.map_toArray, List.map_cons, List.map_nil]); first | done | rfl | (simp only [List.length_drop, List.length_take]; rfl)) ?_; (with_reducible refine (lsa_within.calls a0_0 0 63 true _ A4.out).mono ?_); rintro e w' ⟨rfl, ⟨nd, rfl⟩⟩; refine ⟨_, rfl, ?_⟩) | (go_at_call 35; (with_reducible refine (lsa_within.calls a0_1 1 1073741824 true _ A6.out).mono ?_); rintro e w' ⟨rfl, ⟨nd, rfl⟩⟩) | (go_at_call 35; (with_reducible refine (lsa_within.calls a0_2 0 3600 true _ A8.out).mono ?_); rintro e w' ⟨rfl, ⟨nd, rfl⟩⟩))
      go_meet
      case rel => exact ⟨_, (true), (by first | rfl | (simp; done) | (simp [*]; done)), H', ⟨by first | omega | exact Nat.le_refl _⟩, ⟨kb_ BK121⟩, ⟨by repeat (first | (with_reducible first | exact HB.out | apply bU | apply bS GE121.out) | exact HB.out)⟩⟩
     ·rw [if_neg c10] at H
      have c10b0 : decide (256 < (l0_4.length : Int)) = false := decide_eq_false c10
      have c10b1 : decide (256 < l0_4.length) = false := decide_eq_false (by omega)
      clear c10
      (first | rw [c10b0] | (simp only [i64_w, i32_w]; rw [c10b0]) | skip)
      have H' := Aside0.mk H
      clear H
      obtain ⟨hcz12_0, hcz12_1, hcz12_2, hcz12_3, hcz12_4, hcz12_5, hfz12_0, hfz12_1, hfz12_2, hfz12_3, hfz12_4, hfz12_5⟩ := c6_ BK121
      go_wp2_with (first | ((with_reducible refine gate_callee (f := 35) rfl ?_); refine goesL_ (some 9) rfl rfl Try.func35 (by kernel_rfl) rfl #[.int .i64 a0_0, .int .i64 0, .int .i64 63] rfl (by (try simp only [List.map_toArray, List.map_cons, List.map_nil]); first | done | rfl | (simp only [List.length_drop, List.length_take]; rfl)) ?_; (with_reducible refine (lsa_within.calls a0_0 0 63 true _ A4.out).mono ?_); rintro e w' ⟨rfl, ⟨nd, rfl⟩⟩; refine ⟨_, rfl, ?_⟩) | (go_at_call 35; (with_reducible refine (lsa_within.calls a0_1 1 1073741824 true _ A6.out).mono ?_); rintro e w' ⟨rfl, ⟨nd, rfl⟩⟩) | (go_at_call 35; (with_reducible refine (lsa_within.calls a0_2 0 3600 true _ A8.out).mono ?_); rintro e w' ⟨rfl, ⟨nd, rfl⟩⟩))
      go_meet
      case rel => exact ⟨_, (decide ((l0_5.length : Int) > 64)), (by first | rfl | (simp; done) | (simp [*]; done)), H', ⟨by first | omega | exact Nat.le_refl _⟩, ⟨kb_ BK121⟩, ⟨by repeat (first | (with_reducible first | exact HB.out | apply bU | apply bS GE121.out) | exact HB.out)⟩⟩
    ·replace c9 := Bool.eq_false_iff.mpr c9
     subst c9
     have H1 : (lsa_Valid.j0 k true a0_0 a0_1 a0_2 a0_3 l0_4 l0_5) = some r := by rw [if_neg (show ¬ (false = true) by decide)] at H; exact H
     clear H
     have H := H1
     clear H1
     have H' := Aside0.mk H
     clear H
     obtain ⟨hcz13_0, hcz13_1, hcz13_2, hcz13_3, hcz13_4, hcz13_5, hfz13_0, hfz13_1, hfz13_2, hfz13_3, hfz13_4, hfz13_5⟩ := c6_ BK121
     go_wp2_with (first | ((with_reducible refine gate_callee (f := 35) rfl ?_); refine goesL_ (some 9) rfl rfl Try.func35 (by kernel_rfl) rfl #[.int .i64 a0_0, .int .i64 0, .int .i64 63] rfl (by (try simp only [List.map_toArray, List.map_cons, List.map_nil]); first | done | rfl | (simp only [List.length_drop, List.length_take]; rfl)) ?_; (with_reducible refine (lsa_within.calls a0_0 0 63 true _ A4.out).mono ?_); rintro e w' ⟨rfl, ⟨nd, rfl⟩⟩; refine ⟨_, rfl, ?_⟩) | (go_at_call 35; (with_reducible refine (lsa_within.calls a0_1 1 1073741824 true _ A6.out).mono ?_); rintro e w' ⟨rfl, ⟨nd, rfl⟩⟩) | (go_at_call 35; (with_reducible refine (lsa_within.calls a0_2 0 3600 false _ A8.out).mono ?_); rintro e w' ⟨rfl, ⟨nd, rfl⟩⟩))
     go_meet
     case rel => exact ⟨_, (true), (by first | rfl | (simp; done) | (simp [*]; done)), H', ⟨by first | omega | exact Nat.le_refl _⟩, ⟨kb_ BK121⟩, ⟨by repeat (first | (with_reducible first | exact HB.out | apply bU | apply bS GE121.out) | exact HB.out)⟩⟩
   ·replace c7 := Bool.eq_false_iff.mpr c7
    subst c7
    have H1 : (lsa_Valid.j0 k true a0_0 a0_1 a0_2 a0_3 l0_4 l0_5) = some r := by rw [if_neg (show ¬ (false = true) by decide)] at H; exact H
    clear H
    have H := H1
    clear H1
    have H' := Aside0.mk H
    clear H
    obtain ⟨hcz14_0, hcz14_1, hcz14_2, hcz14_3, hcz14_4, hcz14_5, hfz14_0, hfz14_1, hfz14_2, hfz14_3, hfz14_4, hfz14_5⟩ := c6_ BK121
    go_wp2_with (first | ((with_reducible refine gate_callee (f := 35) rfl ?_); refine goesL_ (some 9) rfl rfl Try.func35 (by kernel_rfl) rfl #[.int .i64 a0_0, .int .i64 0, .int .i64 63] rfl (by (try simp only [List.map_toArray, List.map_cons, List.map_nil]); first | done | rfl | (simp only [List.length_drop, List.length_take]; rfl)) ?_; (with_reducible refine (lsa_within.calls a0_0 0 63 true _ A4.out).mono ?_); rintro e w' ⟨rfl, ⟨nd, rfl⟩⟩; refine ⟨_, rfl, ?_⟩) | (go_at_call 35; (with_reducible refine (lsa_within.calls a0_1 1 1073741824 false _ A6.out).mono ?_); rintro e w' ⟨rfl, ⟨nd, rfl⟩⟩))
    go_meet
    case rel => exact ⟨_, (true), (by first | rfl | (simp; done) | (simp [*]; done)), H', ⟨by first | omega | exact Nat.le_refl _⟩, ⟨kb_ BK121⟩, ⟨by repeat (first | (with_reducible first | exact HB.out | apply bU | apply bS GE121.out) | exact HB.out)⟩⟩
  ·replace c5 := Bool.eq_false_iff.mpr c5
   subst c5
   have H1 : (lsa_Valid.j0 k true a0_0 a0_1 a0_2 a0_3 l0_4 l0_5) = some r := by rw [if_neg (show ¬ (false = true) by decide)] at H; exact H
   clear H
   have H := H1
   clear H1
   have H' := Aside0.mk H
   clear H
   obtain ⟨hcz15_0, hcz15_1, hcz15_2, hcz15_3, hcz15_4, hcz15_5, hfz15_0, hfz15_1, hfz15_2, hfz15_3, hfz15_4, hfz15_5⟩ := c6_ BK121
   go_wp2_with (first | ((with_reducible refine gate_callee (f := 35) rfl ?_); refine goesL_ (some 9) rfl rfl Try.func35 (by kernel_rfl) rfl #[.int .i64 a0_0, .int .i64 0, .int .i64 63] rfl (by (try simp only [List.map_toArray, List.map_cons, List.map_nil]); first | done | rfl | (simp only [List.length_drop, List.length_take]; rfl)) ?_; (with_reducible refine (lsa_within.calls a0_0 0 63 false _ A4.out).mono ?_); rintro e w' ⟨rfl, ⟨nd, rfl⟩⟩; refine ⟨_, rfl, ?_⟩))
   go_meet
   case rel => exact ⟨_, (true), (by first | rfl | (simp; done) | (simp [*]; done)), H', ⟨by first | omega | exact Nat.le_refl _⟩, ⟨kb_ BK121⟩, ⟨by repeat (first | (with_reducible first | exact HB.out | apply bU | apply bS GE121.out) | exact HB.out)⟩⟩
 case rest =>
  clear HC2
  obtain ⟨kq, x34_1, rfl, HA, HJ1, BK121, HB⟩ := hcut
  cases kq with
  | zero => exact absurd HA.out (by simp [lsa_Valid.j0])
  | succ kj1 =>
   have H := HA.out
   clear HA
   simp only [lsa_Valid.j0] at H
   by_cases c16 : x34_1 = true
   ·subst c16
    have H1 : (some false) = some r := by rw [if_pos rfl] at H; exact H
    clear H
    have H := H1
    clear H1
    obtain rfl := Option.some.inj H
    go_wp2
    go_ret
    exact ⟨by first | rfl | (simp [errW_none, errW_some] <;> rfl) | (simp [*, errW_none, errW_some] <;> rfl), by repeat (first | (with_reducible first | exact HB.out | apply bU | apply bS GE121.out) | exact HB.out)⟩
   ·replace c16 := Bool.eq_false_iff.mpr c16
    subst c16
    have H1 : (if a0_2 = 3600 then (if a0_3 = true then (lsa_Valid.j1 kj1 true a0_0 a0_1 a0_2 a0_3 l0_4 l0_5) else (if (l0_4.length : Int) > 0 then (lsa_Valid.j1 kj1 true a0_0 a0_1 a0_2 a0_3 l0_4 l0_5) else (lsa_Valid.j1 kj1 (decide ((l0_5.length : Int) > 0)) a0_0 a0_1 a0_2 a0_3 l0_4 l0_5))) else (lsa_Valid.j1 kj1 false a0_0 a0_1 a0_2 a0_3 l0_4 l0_5)) = some r := by rw [if_neg (show ¬ (false = true) by decide)] at H; exact H
    clear H
    have H := H1
    clear H1
    have HC17 := Aside0.mk H
    clear H
    go_upto_region 3 with (fail)
    go_cut [53] (fun v53 wc => ∃ (kq : Nat) (x53_16 : Bool), v53 = .bool x53_16 ∧ Aside0 (lsa_Valid.j1 kq x53_16 a0_0 a0_1 a0_2 a0_3 l0_4 l0_5 = some r) ∧ Aside0 (kq ≤ kj1) ∧ Aside0 (wc.heap[gb121]? = some (.cells #[.int .i64 a0_0, .int .i64 a0_1, .int .i64 a0_2, .bool a0_3, (.slice A0_4 l0_4.length c0_4), (.slice A0_5 l0_5.length c0_5)] 32 (0, 0))) ∧ Aside0 (Below w.heap.size w wc))
    case first =>
     have H := HC17.out
     clear HC17
     by_cases c18 : a0_2 = 3600
     ·rw [if_pos c18] at H
      have c18b0 : (a0_2 == 3600) = true := beq_iff_eq.mpr c18
      have c18b1 : (a0_2 != 3600) = false := bne_eq_false_iff_eq.mpr c18
      clear c18
      (first | rw [c18b0] | (simp only [i64_w, i32_w]; rw [c18b0]) | skip)
      by_cases c19 : a0_3 = true
      ·subst c19
       have H1 : (lsa_Valid.j1 kj1 true a0_0 a0_1 a0_2 true l0_4 l0_5) = some r := by rw [if_pos rfl] at H; exact H
       clear H
       have H := H1
       clear H1
       have H' := Aside0.mk H
       clear H
       obtain ⟨hcz20_0, hcz20_1, hcz20_2, hcz20_3, hcz20_4, hcz20_5, hfz20_0, hfz20_1, hfz20_2, hfz20_3, hfz20_4, hfz20_5⟩ := c6_ BK121
       go_wp2
       go_meet
       case rel => exact ⟨_, (true), (by first | rfl | (simp; done) | (simp [*]; done)), H', ⟨by have := HJ1.out; first | omega | exact Nat.le_refl _⟩, ⟨kb_ BK121⟩, ⟨by repeat (first | (with_reducible first | exact HB.out | apply bU | apply bS GE121.out) | exact HB.out)⟩⟩
      ·replace c19 := Bool.eq_false_iff.mpr c19
       subst c19
       have H1 : (if (l0_4.length : Int) > 0 then (lsa_Valid.j1 kj1 true a0_0 a0_1 a0_2 false l0_4 l0_5) else (lsa_Valid.j1 kj1 (decide ((l0_5.length : Int) > 0)) a0_0 a0_1 a0_2 false l0_4 l0_5)) = some r := by rw [if_neg (show ¬ (false = true) by decide)] at H; exact H
       clear H
       have H := H1
       clear H1
       by_cases c21 : (l0_4.length : Int) > 0
       ·rw [if_pos c21] at H
        have c21b0 : decide (0 < (l0_4.length : Int)) = true := decide_eq_true c21
        have c21b1 : decide (0 < l0_4.length) = true := decide_eq_true (by omega)
        clear c21
        have H' := Aside0.mk H
        clear H
        obtain ⟨hcz22_0, hcz22_1, hcz22_2, hcz22_3, hcz22_4, hcz22_5, hfz22_0, hfz22_1, hfz22_2, hfz22_3, hfz22_4, hfz22_5⟩ := c6_ BK121
        go_wp2
        go_meet
        case rel => exact ⟨_, (true), (by first | rfl | (simp; done) | (simp [*]; done)), H', ⟨by have := HJ1.out; first | omega | exact Nat.le_refl _⟩, ⟨kb_ BK121⟩, ⟨by repeat (first | (with_reducible first | exact HB.out | apply bU | apply bS GE121.out) | exact HB.out)⟩⟩
       ·rw [if_neg c21] at H
        have c21b0 : decide (0 < (l0_4.length : Int)) = false := decide_eq_false c21
        have c21b1 : decide (0 < l0_4.length) = false := decide_eq_false (by omega)
        clear c21
        have H' := Aside0.mk H
        clear H
        obtain ⟨hcz23_0, hcz23_1, hcz23_2, hcz23_3, hcz23_4, hcz23_5, hfz23_0, hfz23_1, hfz23_2, hfz23_3, hfz23_4, hfz23_5⟩ := c6_ BK121
        go_wp2
        go_meet
        case rel => exact ⟨_, (decide ((l0_5.length : Int) > 0)), (by first | rfl | (simp; done) | (simp [*]; done)), H', ⟨by have := HJ1.out; first | omega | exact Nat.le_refl _⟩, ⟨kb_ BK121⟩, ⟨by repeat (first | (with_reducible first | exact HB.out | apply bU | apply bS GE121.out) | exact HB.out)⟩⟩
     ·rw [if_neg c18] at H
      have c18b0 : (a0_2 == 3600) = false := beq_eq_false_iff_ne.mpr c18
      have c18b1 : (a0_2 != 3600) = true := bne_iff_ne.mpr c18
      (first | rw [c18b0] | (simp only [i64_w, i32_w]; rw [c18b0]) | skip)
      have H' := Aside0.mk H
      clear H
      obtain ⟨hcz24_0, hcz24_1, hcz24_2, hcz24_3, hcz24_4, hcz24_5, hfz24_0, hfz24_1, hfz24_2, hfz24_3, hfz24_4, hfz24_5⟩ := c6_ BK121
      go_wp2
      go_meet
      case rel => exact ⟨_, (false), (by first | rfl | (simp; done) | (simp [*]; done)), H', ⟨by have := HJ1.out; first | omega | exact Nat.le_refl _⟩, ⟨kb_ BK121⟩, ⟨by repeat (first | (with_reducible first | exact HB.out | apply bU | apply bS GE121.out) | exact HB.out)⟩⟩
    case rest =>
     clear HC17
     (try clear c16)
     obtain ⟨kq, x53_16, rfl, HA, HJ16, BK121, HB⟩ := hcut
     cases kq with
     | zero => exact absurd HA.out (by simp [lsa_Valid.j1])
     | succ kj16 =>
      have H := HA.out
      clear HA
      simp only [lsa_Valid.j1] at H
      by_cases c25 : x53_16 = true
      ·subst c25
       have H1 : (some false) = some r := by rw [if_pos rfl] at H; exact H
       clear H
       have H := H1
       clear H1
       obtain rfl := Option.some.inj H
       go_wp2
       go_ret
       exact ⟨by first | rfl | (simp [errW_none, errW_some] <;> rfl) | (simp [*, errW_none, errW_some] <;> rfl), by repeat (first | (with_reducible first | exact HB.out | apply bU | apply bS GE121.out) | exact HB.out)⟩
      ·replace c25 := Bool.eq_false_iff.mpr c25
       subst c25
       have H1 : (lsa_Valid.l0 kj16 l0_4 (l0_4.length : Int) 0 a0_0 a0_1 a0_2 a0_3 l0_4 l0_5) = some r := by rw [if_neg (show ¬ (false = true) by decide)] at H; exact H
       clear H
       have H := H1
       clear H1
       have H' := Aside0.mk H
       clear H
       obtain ⟨hcz26_0, hcz26_1, hcz26_2, hcz26_3, hcz26_4, hcz26_5, hfz26_0, hfz26_1, hfz26_2, hfz26_3, hfz26_4, hfz26_5⟩ := c6_ BK121
       go_wp2
       go_loopg [57] kj16 (fun kq v57 w' => ∃ (x57_3 : Int), v57 = .int .i64 x57_3 ∧ Aside0 (lsa_Valid.l0 kq l0_4 (l0_4.length : Int) x57_3 a0_0 a0_1 a0_2 a0_3 l0_4 l0_5 = some r) ∧ Aside0 (kq ≤ kj16) ∧ Aside0 (w'.heap[gb121]? = some (.cells #[.int .i64 a0_0, .int .i64 a0_1, .int .i64 a0_2, .bool a0_3, (.slice A0_4 l0_4.length c0_4), (.slice A0_5 l0_5.length c0_5)] 32 (0, 0))) ∧ Aside0 (Below w.heap.size w w'))
       case atStart => exact ⟨(0), (by first | rfl | (simp; done) | (simp [*]; done)), H', ⟨Nat.le_refl _⟩, ⟨kb_ BK121⟩, ⟨by repeat (first | (with_reducible first | exact HB.out | apply bU | apply bS GE121.out) | exact HB.out)⟩⟩
       case round =>
        clear H'
        (try clear c16); (try clear c25); (try clear hcz26_0); (try clear hcz26_1); (try clear hcz26_2); (try clear hcz26_3); (try clear hcz26_4); (try clear hcz26_5); (try clear hfz26_0); (try clear hfz26_1); (try clear hfz26_2); (try clear hfz26_3); (try clear hfz26_4); (try clear hfz26_5)
        obtain ⟨x57_3, rfl, HA, HK3, BK121, HB⟩ := hrel
        cases gk with
        | zero => exact absurd HA.out (by simp [lsa_Valid.l0])
        | succ k3 =>
         have H := HA.out
         clear HA
         simp only [lsa_Valid.l0] at H
         by_cases c27 : x57_3 < (l0_4.length : Int)
         ·rw [if_pos c27] at H
          have c27b0 : decide (x57_3 < (l0_4.length : Int)) = true := decide_eq_true c27
          clear c27
          by_cases c28 : 0 ≤ x57_3
          ·rw [if_pos c28] at H
           have c28b0 : decide (0 ≤ x57_3) = true := decide_eq_true c28
           clear c28
           by_cases c29 : x57_3 < (l0_4.length : Int)
           ·rw [if_pos c29] at H
            have c29b0 : decide (x57_3 < (l0_4.length : Int)) = true := decide_eq_true c29
            clear c29
            have HC30 := Aside0.mk H
            clear H
            have p125 : 0 ≤ (x57_3 : Int) := of_decide_eq_true (by first | (with_reducible assumption) | assumption)
            have q125 : x57_3 < (l0_4.length : Int) := of_decide_eq_true (by first | (with_reducible assumption) | assumption)
            obtain ⟨ad125, e125, hx125_0, hx125_1, hx125_2⟩ := at_T72 HR0_4.out x57_3 p125 q125
            cases e125
            replace hx125_0 := (HB.out.cell (World.block_lt_of_cell? w _ hx125_0)).trans hx125_0
            replace hx125_1 := (HB.out.cell (World.block_lt_of_cell? w _ hx125_1)).trans hx125_1
            replace hx125_2 := (HB.out.cell (World.block_lt_of_cell? w _ hx125_2)).trans hx125_2
            replace p125 := eq_true p125
            replace q125 := eq_true q125
            go_upto_region 8 with (first | ((with_reducible refine gate_dst (N := 4) rfl ?_); (try (refine gate_guard (by rfl) ?_; dsimp only)); refine box_event ?hg (N := 4) ?hd (cs := #[.int .i64 0, .int .i64 0, .int .i64 0]) (t := 72) ?hr ?_; (case hd => rfl); (case hg => rfl); (case hr => first | (go_simp; done) | (go_simp; rfl)); intro gb126 hg w31 hbox hb; have BK126 := Aside0.mk (hbox); have GW126 := Aside0.mk ((by rw [hg]; exact (below_size (by repeat (first | (with_reducible first | exact HB.out | apply bU | apply bS GE121.out) | exact HB.out))) : w.heap.size ≤ gb126)); have GE126 := Aside0.mk ((by rw [hg]; exact (below_size (by repeat (first | (with_reducible first | exact HB.out | apply bU | apply bS GE121.out) | exact HB.out))) : w.heap.size ≤ gb126)); have NB121_126 := nl_ BK121 hg; have NB126_121 := ng_ BK121 hg; replace BK121 := bb_ BK121 hb; replace HB := Aside0.mk (below_step (by repeat (first | (with_reducible first | exact HB.out | apply bU | apply bS GE121.out) | exact HB.out)) hb); clear hb hbox hg; have hnb32 := NB126_121.out; have hnc32 := NB121_126.out; obtain ⟨hcz33_0, hcz33_1, hcz33_2, hfz33_0, hfz33_1, hfz33_2⟩ := c3_ BK126))
            (try simp only [Act.put, List.setIfInBounds_toArray, List.set_cons_zero, List.set_cons_succ])
            go_cut [82] (fun v82 wc => ∃ (kq : Nat) (x82_29 : Bool), v82 = .bool x82_29 ∧ Aside0 (lsa_Valid.j3 kq l0_4 (l0_4.length : Int) x57_3 x82_29 a0_0 a0_1 a0_2 a0_3 l0_4 l0_5 = some r) ∧ Aside0 (kq ≤ k3) ∧ Aside0 (wc.heap[gb121]? = some (.cells #[.int .i64 a0_0, .int .i64 a0_1, .int .i64 a0_2, .bool a0_3, (.slice (some ad125) l0_4.length c0_4), (.slice A0_5 l0_5.length c0_5)] 32 (0, 0))) ∧ Aside0 (wc.heap[gb126]? = some (.cells #[.int .i64 ((rd_T72 l0_4 x57_3).f0), .int .i64 ((rd_T72 l0_4 x57_3).f1), .int .i64 ((rd_T72 l0_4 x57_3).f2)] 72 (0, 0))) ∧ Aside0 (Below w.heap.size w wc))
            case first =>
             have H := HC30.out
             clear HC30
             replace H := Option.bind_eq_some_iff.mp H
             obtain ⟨t127, A340, H⟩ := H
             replace H : (if t127 = true then (if x57_3 > 0 then (if 0 ≤ (wrap64 (x57_3 - 1)) then (if (wrap64 (x57_3 - 1)) < (l0_4.length : Int) then (lsa_Valid.j3 k3 l0_4 (l0_4.length : Int) x57_3 (decide (((rd_T72 l0_4 (wrap64 (x57_3 - 1))).f1) ≥ ((rd_T72 l0_4 x57_3).f1))) a0_0 a0_1 a0_2 a0_3 l0_4 l0_5) else (none)) else (none)) else (lsa_Valid.j3 k3 l0_4 (l0_4.length : Int) x57_3 false a0_0 a0_1 a0_2 a0_3 l0_4 l0_5)) else (lsa_Valid.j3 k3 l0_4 (l0_4.length : Int) x57_3 true a0_0 a0_1 a0_2 a0_3 l0_4 l0_5)) = some r := H
             have A34 := Aside0.mk A340
             clear A340
             by_cases c35 : t127 = true
             ·subst c35
              have H1 : (if x57_3 > 0 then (if 0 ≤ (wrap64 (x57_3 - 1)) then (if (wrap64 (x57_3 - 1)) < (l0_4.length : Int) then (lsa_Valid.j3 k3 l0_4 (l0_4.length : Int) x57_3 (decide (((rd_T72 l0_4 (wrap64 (x57_3 - 1))).f1) ≥ ((rd_T72 l0_4 x57_3).f1))) a0_0 a0_1 a0_2 a0_3 l0_4 l0_5) else (none)) else (none)) else (lsa_Valid.j3 k3 l0_4 (l0_4.length : Int) x57_3 false a0_0 a0_1 a0_2 a0_3 l0_4 l0_5)) = some r := by rw [if_pos rfl] at H; exact H
              clear H
              have H := H1
              clear H1
              by_cases c36 : x57_3 > 0
              ·rw [if_pos c36] at H
               have c36b0 : decide (0 < x57_3) = true := decide_eq_true c36
               clear c36
               (first | rw [c36b0] | (simp only [i64_w, i32_w]; rw [c36b0]) | skip)
               obtain ⟨ji37, hji37⟩ : ∃ j_ : Int, (wrap64 (x57_3 - 1)) = j_ := ⟨_, rfl⟩
               replace H : (if 0 ≤ (ji37) then (if (ji37) < (l0_4.length : Int) then (lsa_Valid.j3 k3 l0_4 (l0_4.length : Int) x57_3 (decide (((rd_T72 l0_4 (ji37)).f1) ≥ ((rd_T72 l0_4 x57_3).f1))) a0_0 a0_1 a0_2 a0_3 l0_4 l0_5) else (none)) else (none)) = some r := by first | (rw [hji37] at H; exact H) | (simp only [hji37] at H ⊢; exact H)
               (try rw [hji37] at A34)
               have hji37w : (IntKind.i64.wrap (x57_3 - 1)) = ji37 := (i64_w _).trans hji37
               by_cases c38 : 0 ≤ (ji37)
               ·rw [if_pos c38] at H
                have c38b0 : decide (0 ≤ (ji37)) = true := decide_eq_true c38
                clear c38
                by_cases c39 : (ji37) < (l0_4.length : Int)
                ·rw [if_pos c39] at H
                 have c39b0 : decide ((ji37) < (l0_4.length : Int)) = true := decide_eq_true c39
                 clear c39
                 have H' := Aside0.mk H
                 clear H
                 try go_wp2
                 have n0_ : Aside0 ((((w31.setCell ⟨gb126, 0, none⟩ (.int .i64 ((rd_T72 l0_4 x57_3).f0))).setCell ⟨gb126, 1, none⟩ (.int .i64 ((rd_T72 l0_4 x57_3).f1))).setCell ⟨gb126, 2, none⟩ (.int .i64 ((rd_T72 l0_4 x57_3).f2))).heap[gb121]? = some (.cells #[.int .i64 a0_0, .int .i64 a0_1, .int .i64 a0_2, .bool a0_3, .slice (some ad125) l0_4.length c0_4, .slice A0_5 l0_5.length c0_5] 32 (0, 0))) := ⟨by (with_reducible repeat (first | refine blk_drewN ?_ _ | refine blk_drew ?_ | refine blk_alloc ?_ _)); refine blk_far ?_ NB121_126.out _; (with_reducible repeat (first | refine blk_drewN ?_ _ | refine blk_drew ?_ | refine blk_alloc ?_ _)); refine blk_far ?_ NB121_126.out _; (with_reducible repeat (first | refine blk_drewN ?_ _ | refine blk_drew ?_ | refine blk_alloc ?_ _)); refine blk_far ?_ NB121_126.out _; (with_reducible repeat (first | refine blk_drewN ?_ _ | refine blk_drew ?_ | refine blk_alloc ?_ _)); exact BK121.out⟩
                 have n1_ : Aside0 ((((w31.setCell ⟨gb126, 0, none⟩ (.int .i64 ((rd_T72 l0_4 x57_3).f0))).setCell ⟨gb126, 1, none⟩ (.int .i64 ((rd_T72 l0_4 x57_3).f1))).setCell ⟨gb126, 2, none⟩ (.int .i64 ((rd_T72 l0_4 x57_3).f2))).heap[gb126]? = some (.cells #[.int .i64 ((rd_T72 l0_4 x57_3).f0), .int .i64 ((rd_T72 l0_4 x57_3).f1), .int .i64 ((rd_T72 l0_4 x57_3).f2)] 72 (0, 0))) := ⟨by (with_reducible repeat (first | refine blk_drewN ?_ _ | refine blk_drew ?_ | refine blk_alloc ?_ _)); refine blk_put (cs := #[.int .i64 ((rd_T72 l0_4 x57_3).f0), .int .i64 ((rd_T72 l0_4 x57_3).f1), .int .i64 0]) ?_ 2 _ rfl; (with_reducible repeat (first | refine blk_drewN ?_ _ | refine blk_drew ?_ | refine blk_alloc ?_ _)); refine blk_put (cs := #[.int .i64 ((rd_T72 l0_4 x57_3).f0), .int .i64 0, .int .i64 0]) ?_ 1 _ rfl; (with_reducible repeat (first | refine blk_drewN ?_ _ | refine blk_drew ?_ | refine blk_alloc ?_ _)); refine blk_put (cs := #[.int .i64 0, .int .i64 0, .int .i64 0]) ?_ 0 _ rfl; (with_reducible repeat (first | refine blk_drewN ?_ _ | refine blk_drew ?_ | refine blk_alloc ?_ _)); exact BK126.out⟩
                 have n2_ : Aside0 (Below w.heap.size w (((w31.setCell ⟨gb126, 0, none⟩ (.int .i64 ((rd_T72 l0_4 x57_3).f0))).setCell ⟨gb126, 1, none⟩ (.int .i64 ((rd_T72 l0_4 x57_3).f1))).setCell ⟨gb126, 2, none⟩ (.int .i64 ((rd_T72 l0_4 x57_3).f2)))) := ⟨by repeat (first | (with_reducible first | exact HB.out | apply bU | apply bS GE121.out | apply bS GE126.out) | exact HB.out)⟩
                 (try clear BK121)
                 (try clear BK126)
                 (try clear HB)
                 generalize (((w31.setCell ⟨gb126, 0, none⟩ (.int .i64 ((rd_T72 l0_4 x57_3).f0))).setCell ⟨gb126, 1, none⟩ (.int .i64 ((rd_T72 l0_4 x57_3).f1))).setCell ⟨gb126, 2, none⟩ (.int .i64 ((rd_T72 l0_4 x57_3).f2))) = w40 at n0_ n1_ n2_ ⊢
                 have BK121 := n0_
                 have BK126 := n1_
                 have HB := n2_
                 clear n0_ n1_ n2_
                 replace BK121 := Aside0.mk (blk_drew BK121.out)
                 replace BK126 := Aside0.mk (blk_drew BK126.out)
                 replace HB := Aside0.mk (below_drew1 HB.out)
                 have p128 : 0 ≤ ((ji37) : Int) := of_decide_eq_true (by first | (with_reducible assumption) | assumption)
                 have q128 : (ji37) < (l0_4.length : Int) := of_decide_eq_true (by first | (with_reducible assumption) | assumption)
                 obtain ⟨ad128, e128, hx128_0, hx128_1, hx128_2⟩ := at_T72 HR0_4.out (ji37) p128 q128
                 have hw128_2 := hx128_2
                 have hw128_1 := hx128_1
                 have hw128_0 := hx128_0
                 obtain rfl : ad125 = ad128 := (by injection e128)
                 replace hx128_0 := (HB.out.cell (World.block_lt_of_cell? w _ hx128_0)).trans hx128_0
                 replace hx128_1 := (HB.out.cell (World.block_lt_of_cell? w _ hx128_1)).trans hx128_1
                 replace hx128_2 := (HB.out.cell (World.block_lt_of_cell? w _ hx128_2)).trans hx128_2
                 replace p128 := eq_true p128
                 replace q128 := eq_true q128
                 refine start_ (n := 21) (S := fun w' => w'.cell? ⟨gb121, 0, none⟩ = some (.int .i64 a0_0) ∧ w'.cell? ⟨gb121, 1, none⟩ = some (.int .i64 a0_1) ∧ w'.cell? ⟨gb121, 2, none⟩ = some (.int .i64 a0_2) ∧ w'.cell? ⟨gb121, 3, none⟩ = some (.bool a0_3) ∧ w'.cell? ⟨gb121, 4, none⟩ = some (.slice (some ad125) l0_4.length c0_4) ∧ w'.cell? ⟨gb121, 5, none⟩ = some (.slice A0_5 l0_5.length c0_5) ∧ w'.cell? ⟨gb126, 0, none⟩ = some (.int .i64 ((rd_T72 l0_4 x57_3).f0)) ∧ w'.cell? ⟨gb126, 1, none⟩ = some (.int .i64 ((rd_T72 l0_4 x57_3).f1)) ∧ w'.cell? ⟨gb126, 2, none⟩ = some (.int .i64 ((rd_T72 l0_4 x57_3).f2)) ∧ w'.cell? (ad125.add (((ji37)).toNat * 3)) = some (.int .i64 ((rd_T72 l0_4 (ji37)).f0)) ∧ w'.cell? ⟨(ad125.add (((ji37)).toNat * 3)).block, (ad125.add (((ji37)).toNat * 3)).off + 1, none⟩ = some (.int .i64 ((rd_T72 l0_4 (ji37)).f1)) ∧ w'.cell? ⟨(ad125.add (((ji37)).toNat * 3)).block, (ad125.add (((ji37)).toNat * 3)).off + 2, none⟩ = some (.int .i64 ((rd_T72 l0_4 (ji37)).f2))) (ds := []) #[false, false, false, false, false, false, false, false, false, false, false, false, false, false, false, false, false, false, false, false, false] (by kernel_rfl) rfl rfl ⟨(blk_cell BK121.out 0).trans rfl, (blk_cell BK121.out 1).trans rfl, (blk_cell BK121.out 2).trans rfl, (blk_cell BK121.out 3).trans rfl, (blk_cell BK121.out 4).trans rfl, (blk_cell BK121.out 5).trans rfl, (blk_cell BK126.out 0).trans rfl, (blk_cell BK126.out 1).trans rfl, (blk_cell BK126.out 2).trans rfl, ((HB.out.cell (World.block_lt_of_cell? w _ hw128_0)).trans hw128_0), ((HB.out.cell (World.block_lt_of_cell? w _ hw128_1)).trans hw128_1), ((HB.out.cell (World.block_lt_of_cell? w _ hw128_2)).trans hw128_2)⟩ (fun hHeld => ?_); refine with_tabW lsa_Valid.tab8 lsa_Valid.bits8 (fun HT_ HW_ => ?_)
                 generalize w40.drew = w41 at BK121 BK126 HB hx128_0 hx128_1 hx128_2 hHeld ⊢
                 refine py 0 62 HT_ ?_
                 refine ty 1 63 HT_ HW_ rfl (Or.inl ⟨by rfl, by rintro w' ⟨s0, s1, s2, s3, s4, s5, s6, s7, s8, s9, s10, s11⟩; go_simp; with_reducible rfl⟩) hHeld ?_
                 refine ty 2 64 HT_ HW_ rfl (Or.inl ⟨by rfl, by rintro w' ⟨s0, s1, s2, s3, s4, s5, s6, s7, s8, s9, s10, s11⟩; go_simp; with_reducible rfl⟩) hHeld ?_
                 refine one_ (i := 3) (N := some 65) #[true, true, true, true, false, false, false, false, false, false, false, false, false, false, false, false, false, false, false, false, false] rfl rfl (one_of HT_.out (by kernel_rfl)) (by decide) (fun K hK => ?_)
                 refine goes_ Try.func36 (by kernel_rfl) rfl #[.int .i64 a0_0, .agg #[.int .i64 ((rd_T72 l0_4 x57_3).f0), .int .i64 ((rd_T72 l0_4 x57_3).f1), .int .i64 ((rd_T72 l0_4 x57_3).f2)]] (by rfl) rfl rfl (by (try simp only [List.map_toArray, List.map_cons, List.map_nil]); first | done | rfl | (simp only [List.length_drop, List.length_take]; rfl)) ?_
                 with_reducible refine (lsa_adjacency.calls a0_0 ((rd_T72 l0_4 x57_3).f0) ((rd_T72 l0_4 x57_3).f1) ((rd_T72 l0_4 x57_3).f2) true _ A34.out).mono ?_
                 rintro e w42 ⟨rfl, hb⟩
                 refine ⟨_, rfl, ?_⟩
                 replace BK121 := bb_ BK121 hb
                 replace BK126 := bb_ BK126 hb
                 replace HB := Aside0.mk (below_step (by repeat (first | (with_reducible first | exact HB.out | apply bU | apply bS GE121.out | apply bS GE126.out) | exact HB.out)) hb)
                 (try clear hb)
                 refine hK.out _ _ ⟨(blk_cell BK121.out 0).trans rfl, (blk_cell BK121.out 1).trans rfl, (blk_cell BK121.out 2).trans rfl, (blk_cell BK121.out 3).trans rfl, (blk_cell BK121.out 4).trans rfl, (blk_cell BK121.out 5).trans rfl, (blk_cell BK126.out 0).trans rfl, (blk_cell BK126.out 1).trans rfl, (blk_cell BK126.out 2).trans rfl, ((HB.out.cell (World.block_lt_of_cell? w _ hw128_0)).trans hw128_0), ((HB.out.cell (World.block_lt_of_cell? w _ hw128_1)).trans hw128_1), ((HB.out.cell (World.block_lt_of_cell? w _ hw128_2)).trans hw128_2)⟩ (fun hHeld => ?_)
                 clear hK K
                 refine norm_ (a' := ?_) ?_ ?_
                 rotate_left
                 ·show Act.put _ (some 65) _ = _
                  simp only [Act.put, List.setIfInBounds_toArray, List.set_cons_zero, List.set_cons_succ, i64_w, i32_w]
                  rfl
                 refine py 4 66 HT_ ?_
                 refine py 5 67 HT_ ?_
                 refine py 6 68 HT_ ?_
                 refine py 7 69 HT_ ?_
                 refine py 8 70 HT_ ?_
                 refine py 9 71 HT_ ?_
                 refine py 11 73 HT_ ?_
                 refine py 12 74 HT_ ?_
                 refine py 16 78 HT_ ?_
                 refine ty 10 72 HT_ HW_ rfl (Or.inl ⟨by rfl, by rintro w' ⟨s0, s1, s2, s3, s4, s5, s6, s7, s8, s9, s10, s11⟩; go_simp; with_reducible rfl⟩) hHeld ?_
                 refine py 13 75 HT_ ?_
                 refine py 14 76 HT_ ?_
                 refine ty 15 77 HT_ HW_ rfl (Or.inl ⟨by rfl, by rintro w' ⟨s0, s1, s2, s3, s4, s5, s6, s7, s8, s9, s10, s11⟩; go_simp; with_reducible rfl⟩) hHeld ?_
                 refine ty 17 79 HT_ HW_ rfl (Or.inl ⟨by rfl, by rintro w' ⟨s0, s1, s2, s3, s4, s5, s6, s7, s8, s9, s10, s11⟩; go_simp; with_reducible rfl⟩) hHeld ?_
                 refine py 18 80 HT_ ?_
                 refine py 19 81 HT_ ?_
                 refine py 20 82 HT_ ?_
                 refine done_ (done_of HT_.out (by kernel_rfl)) ?_
                 try go_wp2
                 go_meet
                 case rel => exact ⟨_, (decide (((rd_T72 l0_4 (ji37)).f1) ≥ ((rd_T72 l0_4 x57_3).f1))), (by first | rfl | (simp; done) | (simp only [← hji37] <;> (first | rfl | simp)) | (simp [*]; done)), H', ⟨by have := HJ1.out; have := HJ16.out; have := HK3.out; first | omega | exact Nat.le_refl _⟩, ⟨kb_ BK121⟩, ⟨kb_ BK126⟩, ⟨by repeat (first | (with_reducible first | exact HB.out | apply bU | apply bS GE121.out | apply bS GE126.out) | exact HB.out)⟩⟩
                ·rw [if_neg c39] at H
                 exact absurd H (by simp)
               ·rw [if_neg c38] at H
                exact absurd H (by simp)
              ·rw [if_neg c36] at H
               have c36b0 : decide (0 < x57_3) = false := decide_eq_false c36
               clear c36
               (first | rw [c36b0] | (simp only [i64_w, i32_w]; rw [c36b0]) | skip)
               have H' := Aside0.mk H
               clear H
               try go_wp2
               have n0_ : Aside0 ((((w31.setCell ⟨gb126, 0, none⟩ (.int .i64 ((rd_T72 l0_4 x57_3).f0))).setCell ⟨gb126, 1, none⟩ (.int .i64 ((rd_T72 l0_4 x57_3).f1))).setCell ⟨gb126, 2, none⟩ (.int .i64 ((rd_T72 l0_4 x57_3).f2))).heap[gb121]? = some (.cells #[.int .i64 a0_0, .int .i64 a0_1, .int .i64 a0_2, .bool a0_3, .slice (some ad125) l0_4.length c0_4, .slice A0_5 l0_5.length c0_5] 32 (0, 0))) := ⟨by (with_reducible repeat (first | refine blk_drewN ?_ _ | refine blk_drew ?_ | refine blk_alloc ?_ _)); refine blk_far ?_ NB121_126.out _; (with_reducible repeat (first | refine blk_drewN ?_ _ | refine blk_drew ?_ | refine blk_alloc ?_ _)); refine blk_far ?_ NB121_126.out _; (with_reducible repeat (first | refine blk_drewN ?_ _ | refine blk_drew ?_ | refine blk_alloc ?_ _)); refine blk_far ?_ NB121_126.out _; (with_reducible repeat (first | refine blk_drewN ?_ _ | refine blk_drew ?_ | refine blk_alloc ?_ _)); exact BK121.out⟩
               have n1_ : Aside0 ((((w31.setCell ⟨gb126, 0, none⟩ (.int .i64 ((rd_T72 l0_4 x57_3).f0))).setCell ⟨gb126, 1, none⟩ (.int .i64 ((rd_T72 l0_4 x57_3).f1))).setCell ⟨gb126, 2, none⟩ (.int .i64 ((rd_T72 l0_4 x57_3).f2))).heap[gb126]? = some (.cells #[.int .i64 ((rd_T72 l0_4 x57_3).f0), .int .i64 ((rd_T72 l0_4 x57_3).f1), .int .i64 ((rd_T72 l0_4 x57_3).f2)] 72 (0, 0))) := ⟨by (with_reducible repeat (first | refine blk_drewN ?_ _ | refine blk_drew ?_ | refine blk_alloc ?_ _)); refine blk_put (cs := #[.int .i64 ((rd_T72 l0_4 x57_3).f0), .int .i64 ((rd_T72 l0_4 x57_3).f1), .int .i64 0]) ?_ 2 _ rfl; (with_reducible repeat (first | refine blk_drewN ?_ _ | refine blk_drew ?_ | refine blk_alloc ?_ _)); refine blk_put (cs := #[.int .i64 ((rd_T72 l0_4 x57_3).f0), .int .i64 0, .int .i64 0]) ?_ 1 _ rfl; (with_reducible repeat (first | refine blk_drewN ?_ _ | refine blk_drew ?_ | refine blk_alloc ?_ _)); refine blk_put (cs := #[.int .i64 0, .int .i64 0, .int .i64 0]) ?_ 0 _ rfl; (with_reducible repeat (first | refine blk_drewN ?_ _ | refine blk_drew ?_ | refine blk_alloc ?_ _)); exact BK126.out⟩
               have n2_ : Aside0 (Below w.heap.size w (((w31.setCell ⟨gb126, 0, none⟩ (.int .i64 ((rd_T72 l0_4 x57_3).f0))).setCell ⟨gb126, 1, none⟩ (.int .i64 ((rd_T72 l0_4 x57_3).f1))).setCell ⟨gb126, 2, none⟩ (.int .i64 ((rd_T72 l0_4 x57_3).f2)))) := ⟨by repeat (first | (with_reducible first | exact HB.out | apply bU | apply bS GE121.out | apply bS GE126.out) | exact HB.out)⟩
               (try clear BK121)
               (try clear BK126)
               (try clear HB)
               generalize (((w31.setCell ⟨gb126, 0, none⟩ (.int .i64 ((rd_T72 l0_4 x57_3).f0))).setCell ⟨gb126, 1, none⟩ (.int .i64 ((rd_T72 l0_4 x57_3).f1))).setCell ⟨gb126, 2, none⟩ (.int .i64 ((rd_T72 l0_4 x57_3).f2))) = w43 at n0_ n1_ n2_ ⊢
               have BK121 := n0_
               have BK126 := n1_
               have HB := n2_
               clear n0_ n1_ n2_
               replace BK121 := Aside0.mk (blk_drew BK121.out)
               replace BK126 := Aside0.mk (blk_drew BK126.out)
               replace HB := Aside0.mk (below_drew1 HB.out)
               refine start_ (n := 21) (S := fun w' => w'.cell? ⟨gb121, 0, none⟩ = some (.int .i64 a0_0) ∧ w'.cell? ⟨gb121, 1, none⟩ = some (.int .i64 a0_1) ∧ w'.cell? ⟨gb121, 2, none⟩ = some (.int .i64 a0_2) ∧ w'.cell? ⟨gb121, 3, none⟩ = some (.bool a0_3) ∧ w'.cell? ⟨gb121, 4, none⟩ = some (.slice (some ad125) l0_4.length c0_4) ∧ w'.cell? ⟨gb121, 5, none⟩ = some (.slice A0_5 l0_5.length c0_5) ∧ w'.cell? ⟨gb126, 0, none⟩ = some (.int .i64 ((rd_T72 l0_4 x57_3).f0)) ∧ w'.cell? ⟨gb126, 1, none⟩ = some (.int .i64 ((rd_T72 l0_4 x57_3).f1)) ∧ w'.cell? ⟨gb126, 2, none⟩ = some (.int .i64 ((rd_T72 l0_4 x57_3).f2))) (ds := []) #[false, false, false, false, false, false, false, false, false, false, false, false, false, false, false, false, false, false, false, false, false] (by kernel_rfl) rfl rfl ⟨(blk_cell BK121.out 0).trans rfl, (blk_cell BK121.out 1).trans rfl, (blk_cell BK121.out 2).trans rfl, (blk_cell BK121.out 3).trans rfl, (blk_cell BK121.out 4).trans rfl, (blk_cell BK121.out 5).trans rfl, (blk_cell BK126.out 0).trans rfl, (blk_cell BK126.out 1).trans rfl, (blk_cell BK126.out 2).trans rfl⟩ (fun hHeld => ?_); refine with_tabW lsa_Valid.tab8 lsa_Valid.bits8 (fun HT_ HW_ => ?_)
               generalize w43.drew = w44 at BK121 BK126 HB hHeld ⊢
               refine py 0 62 HT_ ?_
               refine ty 1 63 HT_ HW_ rfl (Or.inl ⟨by rfl, by rintro w' ⟨s0, s1, s2, s3, s4, s5, s6, s7, s8⟩; go_simp; with_reducible rfl⟩) hHeld ?_
               refine ty 2 64 HT_ HW_ rfl (Or.inl ⟨by rfl, by rintro w' ⟨s0, s1, s2, s3, s4, s5, s6, s7, s8⟩; go_simp; with_reducible rfl⟩) hHeld ?_
               refine one_ (i := 3) (N := some 65) #[true, true, true, true, false, false, false, false, false, false, false, false, false, false, false, false, false, false, false, false, false] rfl rfl (one_of HT_.out (by kernel_rfl)) (by decide) (fun K hK => ?_)
               refine goes_ Try.func36 (by kernel_rfl) rfl #[.int .i64 a0_0, .agg #[.int .i64 ((rd_T72 l0_4 x57_3).f0), .int .i64 ((rd_T72 l0_4 x57_3).f1), .int .i64 ((rd_T72 l0_4 x57_3).f2)]] (by rfl) rfl rfl (by (try simp only [List.map_toArray, List.map_cons, List.map_nil]); first | done | rfl | (simp only [List.length_drop, List.length_take]; rfl)) ?_
               with_reducible refine (lsa_adjacency.calls a0_0 ((rd_T72 l0_4 x57_3).f0) ((rd_T72 l0_4 x57_3).f1) ((rd_T72 l0_4 x57_3).f2) true _ A34.out).mono ?_
               rintro e w45 ⟨rfl, hb⟩
               refine ⟨_, rfl, ?_⟩
               replace BK121 := bb_ BK121 hb
               replace BK126 := bb_ BK126 hb
               replace HB := Aside0.mk (below_step (by repeat (first | (with_reducible first | exact HB.out | apply bU | apply bS GE121.out | apply bS GE126.out) | exact HB.out)) hb)
               (try clear hb)
               refine hK.out _ _ ⟨(blk_cell BK121.out 0).trans rfl, (blk_cell BK121.out 1).trans rfl, (blk_cell BK121.out 2).trans rfl, (blk_cell BK121.out 3).trans rfl, (blk_cell BK121.out 4).trans rfl, (blk_cell BK121.out 5).trans rfl, (blk_cell BK126.out 0).trans rfl, (blk_cell BK126.out 1).trans rfl, (blk_cell BK126.out 2).trans rfl⟩ (fun hHeld => ?_)
               clear hK K
               refine norm_ (a' := ?_) ?_ ?_
               rotate_left
               ·show Act.put _ (some 65) _ = _
                simp only [Act.put, List.setIfInBounds_toArray, List.set_cons_zero, List.set_cons_succ, i64_w, i32_w]
                rfl
               refine py 4 66 HT_ ?_
               refine py 5 67 HT_ ?_
               refine py 6 68 HT_ ?_
               refine py 7 69 HT_ ?_
               refine py 8 70 HT_ ?_
               refine pu 9 71 HT_ ?_
               refine pu 10 72 HT_ ?_
               refine pu 11 73 HT_ ?_
               refine pu 12 74 HT_ ?_
               refine pu 13 75 HT_ ?_
               refine pu 14 76 HT_ ?_
               refine pu 15 77 HT_ ?_
               refine pu 16 78 HT_ ?_
               refine pu 17 79 HT_ ?_
               refine pu 18 80 HT_ ?_
               refine py 19 81 HT_ ?_
               refine py 20 82 HT_ ?_
               refine done_ (done_of HT_.out (by kernel_rfl)) ?_
               try go_wp2
               go_meet
               case rel => exact ⟨_, (false), (by first | rfl | (simp; done) | (simp [*]; done)), H', ⟨by have := HJ1.out; have := HJ16.out; have := HK3.out; first | omega | exact Nat.le_refl _⟩, ⟨kb_ BK121⟩, ⟨kb_ BK126⟩, ⟨by repeat (first | (with_reducible first | exact HB.out | apply bU | apply bS GE121.out | apply bS GE126.out) | exact HB.out)⟩⟩
             ·replace c35 := Bool.eq_false_iff.mpr c35
              subst c35
              have H1 : (lsa_Valid.j3 k3 l0_4 (l0_4.length : Int) x57_3 true a0_0 a0_1 a0_2 a0_3 l0_4 l0_5) = some r := by rw [if_neg (show ¬ (false = true) by decide)] at H; exact H
              clear H
              have H := H1
              clear H1
              have H' := Aside0.mk H
              clear H
              try go_wp2
              have n0_ : Aside0 ((((w31.setCell ⟨gb126, 0, none⟩ (.int .i64 ((rd_T72 l0_4 x57_3).f0))).setCell ⟨gb126, 1, none⟩ (.int .i64 ((rd_T72 l0_4 x57_3).f1))).setCell ⟨gb126, 2, none⟩ (.int .i64 ((rd_T72 l0_4 x57_3).f2))).heap[gb121]? = some (.cells #[.int .i64 a0_0, .int .i64 a0_1, .int .i64 a0_2, .bool a0_3, .slice (some ad125) l0_4.length c0_4, .slice A0_5 l0_5.length c0_5] 32 (0, 0))) := ⟨by (with_reducible repeat (first | refine blk_drewN ?_ _ | refine blk_drew ?_ | refine blk_alloc ?_ _)); refine blk_far ?_ NB121_126.out _; (with_reducible repeat (first | refine blk_drewN ?_ _ | refine blk_drew ?_ | refine blk_alloc ?_ _)); refine blk_far ?_ NB121_126.out _; (with_reducible repeat (first | refine blk_drewN ?_ _ | refine blk_drew ?_ | refine blk_alloc ?_ _)); refine blk_far ?_ NB121_126.out _; (with_reducible repeat (first | refine blk_drewN ?_ _ | refine blk_drew ?_ | refine blk_alloc ?_ _)); exact BK121.out⟩
              have n1_ : Aside0 ((((w31.setCell ⟨gb126, 0, none⟩ (.int .i64 ((rd_T72 l0_4 x57_3).f0))).setCell ⟨gb126, 1, none⟩ (.int .i64 ((rd_T72 l0_4 x57_3).f1))).setCell ⟨gb126, 2, none⟩ (.int .i64 ((rd_T72 l0_4 x57_3).f2))).heap[gb126]? = some (.cells #[.int .i64 ((rd_T72 l0_4 x57_3).f0), .int .i64 ((rd_T72 l0_4 x57_3).f1), .int .i64 ((rd_T72 l0_4 x57_3).f2)] 72 (0, 0))) := ⟨by (with_reducible repeat (first | refine blk_drewN ?_ _ | refine blk_drew ?_ | refine blk_alloc ?_ _)); refine blk_put (cs := #[.int .i64 ((rd_T72 l0_4 x57_3).f0), .int .i64 ((rd_T72 l0_4 x57_3).f1), .int .i64 0]) ?_ 2 _ rfl; (with_reducible repeat (first | refine blk_drewN ?_ _ | refine blk_drew ?_ | refine blk_alloc ?_ _)); refine blk_put (cs := #[.int .i64 ((rd_T72 l0_4 x57_3).f0), .int .i64 0, .int .i64 0]) ?_ 1 _ rfl; (with_reducible repeat (first | refine blk_drewN ?_ _ | refine blk_drew ?_ | refine blk_alloc ?_ _)); refine blk_put (cs := #[.int .i64 0, .int .i64 0, .int .i64 0]) ?_ 0 _ rfl; (with_reducible repeat (first | refine blk_drewN ?_ _ | refine blk_drew ?_ | refine blk_alloc ?_ _)); exact BK126.out⟩
              have n2_ : Aside0 (Below w.heap.size w (((w31.setCell ⟨gb126, 0, none⟩ (.int .i64 ((rd_T72 l0_4 x57_3).f0))).setCell ⟨gb126, 1, none⟩ (.int .i64 ((rd_T72 l0_4 x57_3).f1))).setCell ⟨gb126, 2, none⟩ (.int .i64 ((rd_T72 l0_4 x57_3).f2)))) := ⟨by repeat (first | (with_reducible first | exact HB.out | apply bU | apply bS GE121.out | apply bS GE126.out) | exact HB.out)⟩
              (try clear BK121)
              (try clear BK126)
              (try clear HB)
              generalize (((w31.setCell ⟨gb126, 0, none⟩ (.int .i64 ((rd_T72 l0_4 x57_3).f0))).setCell ⟨gb126, 1, none⟩ (.int .i64 ((rd_T72 l0_4 x57_3).f1))).setCell ⟨gb126, 2, none⟩ (.int .i64 ((rd_T72 l0_4 x57_3).f2))) = w46 at n0_ n1_ n2_ ⊢
              have BK121 := n0_
              have BK126 := n1_
              have HB := n2_
              clear n0_ n1_ n2_
              replace BK121 := Aside0.mk (blk_drew BK121.out)
              replace BK126 := Aside0.mk (blk_drew BK126.out)
              replace HB := Aside0.mk (below_drew1 HB.out)
              refine start_ (n := 21) (S := fun w' => w'.cell? ⟨gb121, 0, none⟩ = some (.int .i64 a0_0) ∧ w'.cell? ⟨gb121, 1, none⟩ = some (.int .i64 a0_1) ∧ w'.cell? ⟨gb121, 2, none⟩ = some (.int .i64 a0_2) ∧ w'.cell? ⟨gb121, 3, none⟩ = some (.bool a0_3) ∧ w'.cell? ⟨gb121, 4, none⟩ = some (.slice (some ad125) l0_4.length c0_4) ∧ w'.cell? ⟨gb121, 5, none⟩ = some (.slice A0_5 l0_5.length c0_5) ∧ w'.cell? ⟨gb126, 0, none⟩ = some (.int .i64 ((rd_T72 l0_4 x57_3).f0)) ∧ w'.cell? ⟨gb126, 1, none⟩ = some (.int .i64 ((rd_T72 l0_4 x57_3).f1)) ∧ w'.cell? ⟨gb126, 2, none⟩ = some (.int .i64 ((rd_T72 l0_4 x57_3).f2))) (ds := []) #[false, false, false, false, false, false, false, false, false, false, false, false, false, false, false, false, false, false, false, false, false] (by kernel_rfl) rfl rfl ⟨(blk_cell BK121.out 0).trans rfl, (blk_cell BK121.out 1).trans rfl, (blk_cell BK121.out 2).trans rfl, (blk_cell BK121.out 3).trans rfl, (blk_cell BK121.out 4).trans rfl, (blk_cell BK121.out 5).trans rfl, (blk_cell BK126.out 0).trans rfl, (blk_cell BK126.out 1).trans rfl, (blk_cell BK126.out 2).trans rfl⟩ (fun hHeld => ?_); refine with_tabW lsa_Valid.tab8 lsa_Valid.bits8 (fun HT_ HW_ => ?_)
              generalize w46.drew = w47 at BK121 BK126 HB hHeld ⊢
              refine py 0 62 HT_ ?_
              refine ty 1 63 HT_ HW_ rfl (Or.inl ⟨by rfl, by rintro w' ⟨s0, s1, s2, s3, s4, s5, s6, s7, s8⟩; go_simp; with_reducible rfl⟩) hHeld ?_
              refine ty 2 64 HT_ HW_ rfl (Or.inl ⟨by rfl, by rintro w' ⟨s0, s1, s2, s3, s4, s5, s6, s7, s8⟩; go_simp; with_reducible rfl⟩) hHeld ?_
              refine one_ (i := 3) (N := some 65) #[true, true, true, true, false, false, false, false, false, false, false, false, false, false, false, false, false, false, false, false, false] rfl rfl (one_of HT_.out (by kernel_rfl)) (by decide) (fun K hK => ?_)
              refine goes_ Try.func36 (by kernel_rfl) rfl #[.int .i64 a0_0, .agg #[.int .i64 ((rd_T72 l0_4 x57_3).f0), .int .i64 ((rd_T72 l0_4 x57_3).f1), .int .i64 ((rd_T72 l0_4 x57_3).f2)]] (by rfl) rfl rfl (by (try simp only [List.map_toArray, List.map_cons, List.map_nil]); first | done | rfl | (simp only [List.length_drop, List.length_take]; rfl)) ?_
              with_reducible refine (lsa_adjacency.calls a0_0 ((rd_T72 l0_4 x57_3).f0) ((rd_T72 l0_4 x57_3).f1) ((rd_T72 l0_4 x57_3).f2) false _ A34.out).mono ?_
              rintro e w48 ⟨rfl, hb⟩
              refine ⟨_, rfl, ?_⟩
              replace BK121 := bb_ BK121 hb
              replace BK126 := bb_ BK126 hb
              replace HB := Aside0.mk (below_step (by repeat (first | (with_reducible first | exact HB.out | apply bU | apply bS GE121.out | apply bS GE126.out) | exact HB.out)) hb)
              (try clear hb)
              refine hK.out _ _ ⟨(blk_cell BK121.out 0).trans rfl, (blk_cell BK121.out 1).trans rfl, (blk_cell BK121.out 2).trans rfl, (blk_cell BK121.out 3).trans rfl, (blk_cell BK121.out 4).trans rfl, (blk_cell BK121.out 5).trans rfl, (blk_cell BK126.out 0).trans rfl, (blk_cell BK126.out 1).trans rfl, (blk_cell BK126.out 2).trans rfl⟩ (fun hHeld => ?_)
              clear hK K
              refine norm_ (a' := ?_) ?_ ?_
              rotate_left
              ·show Act.put _ (some 65) _ = _
               simp only [Act.put, List.setIfInBounds_toArray, List.set_cons_zero, List.set_cons_succ, i64_w, i32_w]
               rfl
              refine py 4 66 HT_ ?_
              refine py 5 67 HT_ ?_
              refine pu 6 68 HT_ ?_
              refine pu 7 69 HT_ ?_
              refine pu 8 70 HT_ ?_
              refine pu 9 71 HT_ ?_
              refine pu 10 72 HT_ ?_
              refine pu 11 73 HT_ ?_
              refine pu 12 74 HT_ ?_
              refine pu 13 75 HT_ ?_
              refine pu 14 76 HT_ ?_
              refine pu 15 77 HT_ ?_
              refine pu 16 78 HT_ ?_
              refine pu 17 79 HT_ ?_
              refine pu 18 80 HT_ ?_
              refine pu 19 81 HT_ ?_
              refine py 20 82 HT_ ?_
              refine done_ (done_of HT_.out (by kernel_rfl)) ?_
              try go_wp2
              go_meet
              case rel => exact ⟨_, (true), (by first | rfl | (simp; done) | (simp [*]; done)), H', ⟨by have := HJ1.out; have := HJ16.out; have := HK3.out; first | omega | exact Nat.le_refl _⟩, ⟨kb_ BK121⟩, ⟨kb_ BK126⟩, ⟨by repeat (first | (with_reducible first | exact HB.out | apply bU | apply bS GE121.out | apply bS GE126.out) | exact HB.out)⟩⟩
            case rest =>
             clear HC30
             obtain ⟨kq, x82_29, rfl, HA, HJ29, BK121, BK126, HB⟩ := hcut
             cases kq with
             | zero => exact absurd HA.out (by simp [lsa_Valid.j3])
             | succ kj29 =>
              have H := HA.out
              clear HA
              simp only [lsa_Valid.j3] at H
              by_cases c49 : x82_29 = true
              ·subst c49
               have H1 : (some false) = some r := by rw [if_pos rfl] at H; exact H
               clear H
               have H := H1
               clear H1
               obtain rfl := Option.some.inj H
               go_wp2
               go_ret
               exact ⟨by first | rfl | (simp [errW_none, errW_some] <;> rfl) | (simp [*, errW_none, errW_some] <;> rfl), by repeat (first | (with_reducible first | exact HB.out | apply bU | apply bS GE121.out | apply bS GE126.out) | exact HB.out)⟩
              ·replace c49 := Bool.eq_false_iff.mpr c49
               subst c49
               have H1 : (lsa_Valid.l0 kj29 l0_4 (l0_4.length : Int) (wrap64 (x57_3 + 1)) a0_0 a0_1 a0_2 a0_3 l0_4 l0_5) = some r := by rw [if_neg (show ¬ (false = true) by decide)] at H; exact H
               clear H
               have H := H1
               clear H1
               have H' := Aside0.mk H
               clear H
               go_wp2
               go_roundg kj29
               case measure => have := HJ1.out; have := HJ16.out; have := HK3.out; have := HJ29.out; omega
               case rel => exact ⟨(wrap64 (x57_3 + 1)), (by first | rfl | (simp; done) | (simp [*]; done)), H', ⟨by have := HJ1.out; have := HJ16.out; have := HK3.out; have := HJ29.out; omega⟩, ⟨kb_ BK121⟩, ⟨by repeat (first | (with_reducible first | exact HB.out | apply bU | apply bS GE121.out | apply bS GE126.out) | exact HB.out)⟩⟩
           ·rw [if_neg c29] at H
            exact absurd H (by simp)
          ·rw [if_neg c28] at H
           exact absurd H (by simp)
         ·rw [if_neg c27] at H
          have c27b0 : decide (x57_3 < (l0_4.length : Int)) = false := decide_eq_false c27
          clear c27
          have H' := Aside0.mk H
          clear H
          obtain ⟨hcz50_0, hcz50_1, hcz50_2, hcz50_3, hcz50_4, hcz50_5, hfz50_0, hfz50_1, hfz50_2, hfz50_3, hfz50_4, hfz50_5⟩ := c6_ BK121
          go_wp2
          go_loopg [87] k3 (fun kq v87 w' => ∃ (x87_4 : Int), v87 = .int .i64 x87_4 ∧ Aside0 (lsa_Valid.l1 kq l0_5 (l0_5.length : Int) x87_4 a0_0 a0_1 a0_2 a0_3 l0_4 l0_5 = some r) ∧ Aside0 (kq ≤ k3) ∧ Aside0 (w'.heap[gb121]? = some (.cells #[.int .i64 a0_0, .int .i64 a0_1, .int .i64 a0_2, .bool a0_3, (.slice A0_4 l0_4.length c0_4), (.slice A0_5 l0_5.length c0_5)] 32 (0, 0))) ∧ Aside0 (Below w.heap.size w w'))
          case atStart => exact ⟨(0), (by first | rfl | (simp; done) | (simp [*]; done)), H', ⟨Nat.le_refl _⟩, ⟨kb_ BK121⟩, ⟨by repeat (first | (with_reducible first | exact HB.out | apply bU | apply bS GE121.out) | exact HB.out)⟩⟩
          case round =>
           clear H'
           (try clear c27); (try clear c27b0); (try clear hcz50_0); (try clear hcz50_1); (try clear hcz50_2); (try clear hcz50_3); (try clear hcz50_4); (try clear hcz50_5); (try clear hfz50_0); (try clear hfz50_1); (try clear hfz50_2); (try clear hfz50_3); (try clear hfz50_4); (try clear hfz50_5)
           obtain ⟨x87_4, rfl, HA, HK4, BK121, HB⟩ := hrel
           cases gk with
           | zero => exact absurd HA.out (by simp [lsa_Valid.l1])
           | succ k4 =>
            have H := HA.out
            clear HA
            simp only [lsa_Valid.l1] at H
            by_cases c51 : x87_4 < (l0_5.length : Int)
            ·rw [if_pos c51] at H
             have c51b0 : decide (x87_4 < (l0_5.length : Int)) = true := decide_eq_true c51
             clear c51
             by_cases c52 : 0 ≤ x87_4
             ·rw [if_pos c52] at H
              have c52b0 : decide (0 ≤ x87_4) = true := decide_eq_true c52
              clear c52
              by_cases c53 : x87_4 < (l0_5.length : Int)
              ·rw [if_pos c53] at H
               have c53b0 : decide (x87_4 < (l0_5.length : Int)) = true := decide_eq_true c53
               clear c53
               have HC54 := Aside0.mk H
               clear H
               have p129 : 0 ≤ (x87_4 : Int) := of_decide_eq_true (by first | (with_reducible assumption) | assumption)
               have q129 : x87_4 < (l0_5.length : Int) := of_decide_eq_true (by first | (with_reducible assumption) | assumption)
               obtain ⟨ad129, e129, hx129_0, hx129_1⟩ := at_T76 HR0_5.out x87_4 p129 q129
               cases e129
               replace hx129_0 := (HB.out.cell (World.block_lt_of_cell? w _ hx129_0)).trans hx129_0
               replace hx129_1 := (HB.out.cell (World.block_lt_of_cell? w _ hx129_1)).trans hx129_1
               replace p129 := eq_true p129
               replace q129 := eq_true q129
               go_upto_region 14 with (first | ((with_reducible refine gate_dst (N := 6) rfl ?_); (try (refine gate_guard (by rfl) ?_; dsimp only)); refine box_event ?hg (N := 6) ?hd (cs := #[.int .u32 0, .int .i64 0]) (t := 76) ?hr ?_; (case hd => rfl); (case hg => rfl); (case hr => first | (go_simp; done) | (go_simp; rfl)); intro gb130 hg w55 hbox hb; have BK130 := Aside0.mk (hbox); have GW130 := Aside0.mk ((by rw [hg]; exact (below_size (by repeat (first | (with_reducible first | exact HB.out | apply bU | apply bS GE121.out) | exact HB.out))) : w.heap.size ≤ gb130)); have GE130 := Aside0.mk ((by rw [hg]; exact (below_size (by repeat (first | (with_reducible first | exact HB.out | apply bU | apply bS GE121.out) | exact HB.out))) : w.heap.size ≤ gb130)); have NB121_130 := nl_ BK121 hg; have NB130_121 := ng_ BK121 hg; replace BK121 := bb_ BK121 hb; replace HB := Aside0.mk (below_step (by repeat (first | (with_reducible first | exact HB.out | apply bU | apply bS GE121.out) | exact HB.out)) hb); clear hb hbox hg; have hnb56 := NB130_121.out; have hnc56 := NB121_130.out; obtain ⟨hcz57_0, hcz57_1, hfz57_0, hfz57_1⟩ := c2_ BK130))
               (try simp only [Act.put, List.setIfInBounds_toArray, List.set_cons_zero, List.set_cons_succ])
               go_cut [109] (fun v109 wc => ∃ (kq : Nat) (x109_53 : Bool), v109 = .bool x109_53 ∧ Aside0 (lsa_Valid.j5 kq l0_5 (l0_5.length : Int) x87_4 x109_53 a0_0 a0_1 a0_2 a0_3 l0_4 l0_5 = some r) ∧ Aside0 (kq ≤ k4) ∧ Aside0 (wc.heap[gb121]? = some (.cells #[.int .i64 a0_0, .int .i64 a0_1, .int .i64 a0_2, .bool a0_3, (.slice A0_4 l0_4.length c0_4), (.slice (some ad129) l0_5.length c0_5)] 32 (0, 0))) ∧ Aside0 (wc.heap[gb130]? = some (.cells #[.int .u32 ((rd_T76 l0_5 x87_4).f0), .int .i64 ((rd_T76 l0_5 x87_4).f1)] 76 (0, 0))) ∧ Aside0 (Below w.heap.size w wc))
               case first =>
                have H := HC54.out
                clear HC54
                replace H := Option.bind_eq_some_iff.mp H
                obtain ⟨t131, A580, H⟩ := H
                replace H : (if t131 = true then (if x87_4 > 0 then (if 0 ≤ (wrap64 (x87_4 - 1)) then (if (wrap64 (x87_4 - 1)) < (l0_5.length : Int) then ((lsa_less.f ((rd_T76 l0_5 (wrap64 (x87_4 - 1))).f0) ((rd_T76 l0_5 (wrap64 (x87_4 - 1))).f1) ((rd_T76 l0_5 x87_4).f0) ((rd_T76 l0_5 x87_4).f1)).bind fun t133 => (lsa_Valid.j5 k4 l0_5 (l0_5.length : Int) x87_4 (!t133) a0_0 a0_1 a0_2 a0_3 l0_4 l0_5)) else (none)) else (none)) else (lsa_Valid.j5 k4 l0_5 (l0_5.length : Int) x87_4 false a0_0 a0_1 a0_2 a0_3 l0_4 l0_5)) else (lsa_Valid.j5 k4 l0_5 (l0_5.length : Int) x87_4 true a0_0 a0_1 a0_2 a0_3 l0_4 l0_5)) = some r := H
                have A58 := Aside0.mk A580
                clear A580
                by_cases c59 : t131 = true
                ·subst c59
                 have H1 : (if x87_4 > 0 then (if 0 ≤ (wrap64 (x87_4 - 1)) then (if (wrap64 (x87_4 - 1)) < (l0_5.length : Int) then ((lsa_less.f ((rd_T76 l0_5 (wrap64 (x87_4 - 1))).f0) ((rd_T76 l0_5 (wrap64 (x87_4 - 1))).f1) ((rd_T76 l0_5 x87_4).f0) ((rd_T76 l0_5 x87_4).f1)).bind fun t133 => (lsa_Valid.j5 k4 l0_5 (l0_5.length : Int) x87_4 (!t133) a0_0 a0_1 a0_2 a0_3 l0_4 l0_5)) else (none)) else (none)) else (lsa_Valid.j5 k4 l0_5 (l0_5.length : Int) x87_4 false a0_0 a0_1 a0_2 a0_3 l0_4 l0_5)) = some r := by rw [if_pos rfl] at H; exact H
                 clear H
                 have H := H1
                 clear H1
                 by_cases c60 : x87_4 > 0
                 ·rw [if_pos c60] at H
                  have c60b0 : decide (0 < x87_4) = true := decide_eq_true c60
                  clear c60
                  (first | rw [c60b0] | (simp only [i64_w, i32_w]; rw [c60b0]) | skip)
                  obtain ⟨ji61, hji61⟩ : ∃ j_ : Int, (wrap64 (x87_4 - 1)) = j_ := ⟨_, rfl⟩
                  replace H : (if 0 ≤ (ji61) then (if (ji61) < (l0_5.length : Int) then ((lsa_less.f ((rd_T76 l0_5 (ji61)).f0) ((rd_T76 l0_5 (ji61)).f1) ((rd_T76 l0_5 x87_4).f0) ((rd_T76 l0_5 x87_4).f1)).bind fun t133 => (lsa_Valid.j5 k4 l0_5 (l0_5.length : Int) x87_4 (!t133) a0_0 a0_1 a0_2 a0_3 l0_4 l0_5)) else (none)) else (none)) = some r := by first | (rw [hji61] at H; exact H) | (simp only [hji61] at H ⊢; exact H)
                  (try rw [hji61] at A58)
                  have hji61w : (IntKind.i64.wrap (x87_4 - 1)) = ji61 := (i64_w _).trans hji61
                  by_cases c62 : 0 ≤ (ji61)
                  ·rw [if_pos c62] at H
                   have c62b0 : decide (0 ≤ (ji61)) = true := decide_eq_true c62
                   clear c62
                   by_cases c63 : (ji61) < (l0_5.length : Int)
                   ·rw [if_pos c63] at H
                    have c63b0 : decide ((ji61) < (l0_5.length : Int)) = true := decide_eq_true c63
                    clear c63
                    replace H := Option.bind_eq_some_iff.mp H
                    obtain ⟨t133, A640, H⟩ := H
                    replace H : (lsa_Valid.j5 k4 l0_5 (l0_5.length : Int) x87_4 (!t133) a0_0 a0_1 a0_2 a0_3 l0_4 l0_5) = some r := H
                    have A64 := Aside0.mk A640
                    clear A640
                    have H' := Aside0.mk H
                    clear H
                    try go_wp2
                    have n0_ : Aside0 (((w55.setCell ⟨gb130, 0, none⟩ (.int .u32 ((rd_T76 l0_5 x87_4).f0))).setCell ⟨gb130, 1, none⟩ (.int .i64 ((rd_T76 l0_5 x87_4).f1))).heap[gb121]? = some (.cells #[.int .i64 a0_0, .int .i64 a0_1, .int .i64 a0_2, .bool a0_3, .slice A0_4 l0_4.length c0_4, .slice (some ad129) l0_5.length c0_5] 32 (0, 0))) := ⟨by (with_reducible repeat (first | refine blk_drewN ?_ _ | refine blk_drew ?_ | refine blk_alloc ?_ _)); refine blk_far ?_ NB121_130.out _; (with_reducible repeat (first | refine blk_drewN ?_ _ | refine blk_drew ?_ | refine blk_alloc ?_ _)); refine blk_far ?_ NB121_130.out _; (with_reducible repeat (first | refine blk_drewN ?_ _ | refine blk_drew ?_ | refine blk_alloc ?_ _)); exact BK121.out⟩
                    have n1_ : Aside0 (((w55.setCell ⟨gb130, 0, none⟩ (.int .u32 ((rd_T76 l0_5 x87_4).f0))).setCell ⟨gb130, 1, none⟩ (.int .i64 ((rd_T76 l0_5 x87_4).f1))).heap[gb130]? = some (.cells #[.int .u32 ((rd_T76 l0_5 x87_4).f0), .int .i64 ((rd_T76 l0_5 x87_4).f1)] 76 (0, 0))) := ⟨by (with_reducible repeat (first | refine blk_drewN ?_ _ | refine blk_drew ?_ | refine blk_alloc ?_ _)); refine blk_put (cs := #[.int .u32 ((rd_T76 l0_5 x87_4).f0), .int .i64 0]) ?_ 1 _ rfl; (with_reducible repeat (first | refine blk_drewN ?_ _ | refine blk_drew ?_ | refine blk_alloc ?_ _)); refine blk_put (cs := #[.int .u32 0, .int .i64 0]) ?_ 0 _ rfl; (with_reducible repeat (first | refine blk_drewN ?_ _ | refine blk_drew ?_ | refine blk_alloc ?_ _)); exact BK130.out⟩
                    have n2_ : Aside0 (Below w.heap.size w ((w55.setCell ⟨gb130, 0, none⟩ (.int .u32 ((rd_T76 l0_5 x87_4).f0))).setCell ⟨gb130, 1, none⟩ (.int .i64 ((rd_T76 l0_5 x87_4).f1)))) := ⟨by repeat (first | (with_reducible first | exact HB.out | apply bU | apply bS GE121.out | apply bS GE130.out) | exact HB.out)⟩
                    (try clear BK121)
                    (try clear BK130)
                    (try clear HB)
                    generalize ((w55.setCell ⟨gb130, 0, none⟩ (.int .u32 ((rd_T76 l0_5 x87_4).f0))).setCell ⟨gb130, 1, none⟩ (.int .i64 ((rd_T76 l0_5 x87_4).f1))) = w65 at n0_ n1_ n2_ ⊢
                    have BK121 := n0_
                    have BK130 := n1_
                    have HB := n2_
                    clear n0_ n1_ n2_
                    replace BK121 := Aside0.mk (blk_drew BK121.out)
                    replace BK130 := Aside0.mk (blk_drew BK130.out)
                    replace HB := Aside0.mk (below_drew1 HB.out)
                    have p132 : 0 ≤ ((ji61) : Int) := of_decide_eq_true (by first | (with_reducible assumption) | assumption)
                    have q132 : (ji61) < (l0_5.length : Int) := of_decide_eq_true (by first | (with_reducible assumption) | assumption)
                    obtain ⟨ad132, e132, hx132_0, hx132_1⟩ := at_T76 HR0_5.out (ji61) p132 q132
                    have hw132_1 := hx132_1
                    have hw132_0 := hx132_0
                    obtain rfl : ad129 = ad132 := (by injection e132)
                    replace hx132_0 := (HB.out.cell (World.block_lt_of_cell? w _ hx132_0)).trans hx132_0
                    replace hx132_1 := (HB.out.cell (World.block_lt_of_cell? w _ hx132_1)).trans hx132_1
                    replace p132 := eq_true p132
                    replace q132 := eq_true q132
                    refine start_ (n := 18) (S := fun w' => w'.cell? ⟨gb130, 0, none⟩ = some (.int .u32 ((rd_T76 l0_5 x87_4).f0)) ∧ w'.cell? ⟨gb130, 1, none⟩ = some (.int .i64 ((rd_T76 l0_5 x87_4).f1)) ∧ w'.cell? ⟨gb121, 0, none⟩ = some (.int .i64 a0_0) ∧ w'.cell? ⟨gb121, 1, none⟩ = some (.int .i64 a0_1) ∧ w'.cell? ⟨gb121, 2, none⟩ = some (.int .i64 a0_2) ∧ w'.cell? ⟨gb121, 3, none⟩ = some (.bool a0_3) ∧ w'.cell? ⟨gb121, 4, none⟩ = some (.slice A0_4 l0_4.length c0_4) ∧ w'.cell? ⟨gb121, 5, none⟩ = some (.slice (some ad129) l0_5.length c0_5) ∧ w'.cell? (ad129.add (((ji61)).toNat * 2)) = some (.int .u32 ((rd_T76 l0_5 (ji61)).f0)) ∧ w'.cell? ⟨(ad129.add (((ji61)).toNat * 2)).block, (ad129.add (((ji61)).toNat * 2)).off + 1, none⟩ = some (.int .i64 ((rd_T76 l0_5 (ji61)).f1))) (ds := []) #[false, false, false, false, false, false, false, false, false, false, false, false, false, false, false, false, false, false] (by kernel_rfl) rfl rfl ⟨(blk_cell BK130.out 0).trans rfl, (blk_cell BK130.out 1).trans rfl, (blk_cell BK121.out 0).trans rfl, (blk_cell BK121.out 1).trans rfl, (blk_cell BK121.out 2).trans rfl, (blk_cell BK121.out 3).trans rfl, (blk_cell BK121.out 4).trans rfl, (blk_cell BK121.out 5).trans rfl, ((HB.out.cell (World.block_lt_of_cell? w _ hw132_0)).trans hw132_0), ((HB.out.cell (World.block_lt_of_cell? w _ hw132_1)).trans hw132_1)⟩ (fun hHeld => ?_); refine with_tabW lsa_Valid.tab14 lsa_Valid.bits14 (fun HT_ HW_ => ?_)
                    generalize w65.drew = w66 at BK121 BK130 HB hx132_0 hx132_1 hHeld ⊢
                    refine ty 0 92 HT_ HW_ rfl (Or.inl ⟨by rfl, by rintro w' ⟨s0, s1, s2, s3, s4, s5, s6, s7, s8, s9⟩; go_simp; with_reducible rfl⟩) hHeld ?_
                    refine one_ (i := 1) (N := some 93) #[true, true, false, false, false, false, false, false, false, false, false, false, false, false, false, false, false, false] rfl rfl (one_of HT_.out (by kernel_rfl)) (by decide) (fun K hK => ?_)
                    refine goes_ Try.func37 (by kernel_rfl) rfl #[.agg #[.int .u32 ((rd_T76 l0_5 x87_4).f0), .int .i64 ((rd_T76 l0_5 x87_4).f1)]] (by rfl) rfl rfl (by (try simp only [List.map_toArray, List.map_cons, List.map_nil]); first | done | rfl | (simp only [List.length_drop, List.length_take]; rfl)) ?_
                    with_reducible refine (lsa_prefix.calls ((rd_T76 l0_5 x87_4).f0) ((rd_T76 l0_5 x87_4).f1) true _ A58.out).mono ?_
                    rintro e w67 ⟨rfl, hb⟩
                    refine ⟨_, rfl, ?_⟩
                    replace BK121 := bb_ BK121 hb
                    replace BK130 := bb_ BK130 hb
                    replace HB := Aside0.mk (below_step (by repeat (first | (with_reducible first | exact HB.out | apply bU | apply bS GE121.out | apply bS GE130.out) | exact HB.out)) hb)
                    (try clear hb)
                    refine hK.out _ _ ⟨(blk_cell BK130.out 0).trans rfl, (blk_cell BK130.out 1).trans rfl, (blk_cell BK121.out 0).trans rfl, (blk_cell BK121.out 1).trans rfl, (blk_cell BK121.out 2).trans rfl, (blk_cell BK121.out 3).trans rfl, (blk_cell BK121.out 4).trans rfl, (blk_cell BK121.out 5).trans rfl, ((HB.out.cell (World.block_lt_of_cell? w _ hw132_0)).trans hw132_0), ((HB.out.cell (World.block_lt_of_cell? w _ hw132_1)).trans hw132_1)⟩ (fun hHeld => ?_)
                    clear hK K
                    refine norm_ (a' := ?_) ?_ ?_
                    rotate_left
                    ·show Act.put _ (some 93) _ = _
                     simp only [Act.put, List.setIfInBounds_toArray, List.set_cons_zero, List.set_cons_succ, i64_w, i32_w]
                     rfl
                    refine py 2 94 HT_ ?_
                    refine py 3 95 HT_ ?_
                    refine py 4 96 HT_ ?_
                    refine py 5 97 HT_ ?_
                    refine py 6 98 HT_ ?_
                    refine py 7 99 HT_ ?_
                    refine py 9 101 HT_ ?_
                    refine py 10 102 HT_ ?_
                    refine ty 8 100 HT_ HW_ rfl (Or.inl ⟨by rfl, by rintro w' ⟨s0, s1, s2, s3, s4, s5, s6, s7, s8, s9⟩; go_simp; with_reducible rfl⟩) hHeld ?_
                    refine py 11 103 HT_ ?_
                    refine ty 12 104 HT_ HW_ rfl (Or.inl ⟨by rfl, by rintro w' ⟨s0, s1, s2, s3, s4, s5, s6, s7, s8, s9⟩; go_simp; with_reducible rfl⟩) hHeld ?_
                    refine ty 13 105 HT_ HW_ rfl (Or.inl ⟨by rfl, by rintro w' ⟨s0, s1, s2, s3, s4, s5, s6, s7, s8, s9⟩; go_simp; with_reducible rfl⟩) hHeld ?_
                    refine one_ (i := 14) (N := some 106) #[true, true, true, true, true, true, true, true, true, true, true, true, true, true, true, false, false, false] rfl rfl (one_of HT_.out (by kernel_rfl)) (by decide) (fun K hK => ?_)
                    refine goes_ Try.func38 (by kernel_rfl) rfl #[.agg #[.int .u32 ((rd_T76 l0_5 (ji61)).f0), .int .i64 ((rd_T76 l0_5 (ji61)).f1)], .agg #[.int .u32 ((rd_T76 l0_5 x87_4).f0), .int .i64 ((rd_T76 l0_5 x87_4).f1)]] (by rfl) rfl rfl (by (try simp only [List.map_toArray, List.map_cons, List.map_nil]); first | done | (simp only [hji61]; rfl) | rfl | (simp only [List.length_drop, List.length_take]; rfl)) ?_
                    with_reducible refine (lsa_less.calls ((rd_T76 l0_5 (ji61)).f0) ((rd_T76 l0_5 (ji61)).f1) ((rd_T76 l0_5 x87_4).f0) ((rd_T76 l0_5 x87_4).f1) t133 _ A64.out).mono ?_
                    rintro e w68 ⟨rfl, hb⟩
                    refine ⟨_, rfl, ?_⟩
                    replace BK121 := bb_ BK121 hb
                    replace BK130 := bb_ BK130 hb
                    replace HB := Aside0.mk (below_step (by repeat (first | (with_reducible first | exact HB.out | apply bU | apply bS GE121.out | apply bS GE130.out) | exact HB.out)) hb)
                    (try clear hb)
                    refine hK.out _ _ ⟨(blk_cell BK130.out 0).trans rfl, (blk_cell BK130.out 1).trans rfl, (blk_cell BK121.out 0).trans rfl, (blk_cell BK121.out 1).trans rfl, (blk_cell BK121.out 2).trans rfl, (blk_cell BK121.out 3).trans rfl, (blk_cell BK121.out 4).trans rfl, (blk_cell BK121.out 5).trans rfl, ((HB.out.cell (World.block_lt_of_cell? w _ hw132_0)).trans hw132_0), ((HB.out.cell (World.block_lt_of_cell? w _ hw132_1)).trans hw132_1)⟩ (fun hHeld => ?_)
                    clear hK K
                    refine norm_ (a' := ?_) ?_ ?_
                    rotate_left
                    ·show Act.put _ (some 106) _ = _
                     simp only [Act.put, List.setIfInBounds_toArray, List.set_cons_zero, List.set_cons_succ, i64_w, i32_w]
                     rfl
                    refine py 15 107 HT_ ?_
                    refine py 16 108 HT_ ?_
                    refine py 17 109 HT_ ?_
                    refine done_ (done_of HT_.out (by kernel_rfl)) ?_
                    try go_wp2
                    go_meet
                    case rel => exact ⟨_, (!t133), (by first | rfl | (simp; done) | (simp [*]; done)), H', ⟨by have := HJ1.out; have := HJ16.out; have := HK3.out; have := HK4.out; first | omega | exact Nat.le_refl _⟩, ⟨kb_ BK121⟩, ⟨kb_ BK130⟩, ⟨by repeat (first | (with_reducible first | exact HB.out | apply bU | apply bS GE121.out | apply bS GE130.out) | exact HB.out)⟩⟩
                   ·rw [if_neg c63] at H
                    exact absurd H (by simp)
                  ·rw [if_neg c62] at H
                   exact absurd H (by simp)
                 ·rw [if_neg c60] at H
                  have c60b0 : decide (0 < x87_4) = false := decide_eq_false c60
                  clear c60
                  (first | rw [c60b0] | (simp only [i64_w, i32_w]; rw [c60b0]) | skip)
                  have H' := Aside0.mk H
                  clear H
                  try go_wp2
                  have n0_ : Aside0 (((w55.setCell ⟨gb130, 0, none⟩ (.int .u32 ((rd_T76 l0_5 x87_4).f0))).setCell ⟨gb130, 1, none⟩ (.int .i64 ((rd_T76 l0_5 x87_4).f1))).heap[gb121]? = some (.cells #[.int .i64 a0_0, .int .i64 a0_1, .int .i64 a0_2, .bool a0_3, .slice A0_4 l0_4.length c0_4, .slice (some ad129) l0_5.length c0_5] 32 (0, 0))) := ⟨by (with_reducible repeat (first | refine blk_drewN ?_ _ | refine blk_drew ?_ | refine blk_alloc ?_ _)); refine blk_far ?_ NB121_130.out _; (with_reducible repeat (first | refine blk_drewN ?_ _ | refine blk_drew ?_ | refine blk_alloc ?_ _)); refine blk_far ?_ NB121_130.out _; (with_reducible repeat (first | refine blk_drewN ?_ _ | refine blk_drew ?_ | refine blk_alloc ?_ _)); exact BK121.out⟩
                  have n1_ : Aside0 (((w55.setCell ⟨gb130, 0, none⟩ (.int .u32 ((rd_T76 l0_5 x87_4).f0))).setCell ⟨gb130, 1, none⟩ (.int .i64 ((rd_T76 l0_5 x87_4).f1))).heap[gb130]? = some (.cells #[.int .u32 ((rd_T76 l0_5 x87_4).f0), .int .i64 ((rd_T76 l0_5 x87_4).f1)] 76 (0, 0))) := ⟨by (with_reducible repeat (first | refine blk_drewN ?_ _ | refine blk_drew ?_ | refine blk_alloc ?_ _)); refine blk_put (cs := #[.int .u32 ((rd_T76 l0_5 x87_4).f0), .int .i64 0]) ?_ 1 _ rfl; (with_reducible repeat (first | refine blk_drewN ?_ _ | refine blk_drew ?_ | refine blk_alloc ?_ _)); refine blk_put (cs := #[.int .u32 0, .int .i64 0]) ?_ 0 _ rfl; (with_reducible repeat (first | refine blk_drewN ?_ _ | refine blk_drew ?_ | refine blk_alloc ?_ _)); exact BK130.out⟩
                  have n2_ : Aside0 (Below w.heap.size w ((w55.setCell ⟨gb130, 0, none⟩ (.int .u32 ((rd_T76 l0_5 x87_4).f0))).setCell ⟨gb130, 1, none⟩ (.int .i64 ((rd_T76 l0_5 x87_4).f1)))) := ⟨by repeat (first | (with_reducible first | exact HB.out | apply bU | apply bS GE121.out | apply bS GE130.out) | exact HB.out)⟩
                  (try clear BK121)
                  (try clear BK130)
                  (try clear HB)
                  generalize ((w55.setCell ⟨gb130, 0, none⟩ (.int .u32 ((rd_T76 l0_5 x87_4).f0))).setCell ⟨gb130, 1, none⟩ (.int .i64 ((rd_T76 l0_5 x87_4).f1))) = w69 at n0_ n1_ n2_ ⊢
                  have BK121 := n0_
                  have BK130 := n1_
                  have HB := n2_
                  clear n0_ n1_ n2_
                  replace BK121 := Aside0.mk (blk_drew BK121.out)
                  replace BK130 := Aside0.mk (blk_drew BK130.out)
                  replace HB := Aside0.mk (below_drew1 HB.out)
                  refine start_ (n := 18) (S := fun w' => w'.cell? ⟨gb130, 0, none⟩ = some (.int .u32 ((rd_T76 l0_5 x87_4).f0)) ∧ w'.cell? ⟨gb130, 1, none⟩ = some (.int .i64 ((rd_T76 l0_5 x87_4).f1))) (ds := []) #[false, false, false, false, false, false, false, false, false, false, false, false, false, false, false, false, false, false] (by kernel_rfl) rfl rfl ⟨(blk_cell BK130.out 0).trans rfl, (blk_cell BK130.out 1).trans rfl⟩ (fun hHeld => ?_); refine with_tabW lsa_Valid.tab14 lsa_Valid.bits14 (fun HT_ HW_ => ?_)
                  generalize w69.drew = w70 at BK121 BK130 HB hHeld ⊢
                  refine ty 0 92 HT_ HW_ rfl (Or.inl ⟨by rfl, by rintro w' ⟨s0, s1⟩; go_simp; with_reducible rfl⟩) hHeld ?_
                  refine one_ (i := 1) (N := some 93) #[true, true, false, false, false, false, false, false, false, false, false, false, false, false, false, false, false, false] rfl rfl (one_of HT_.out (by kernel_rfl)) (by decide) (fun K hK => ?_)
                  refine goes_ Try.func37 (by kernel_rfl) rfl #[.agg #[.int .u32 ((rd_T76 l0_5 x87_4).f0), .int .i64 ((rd_T76 l0_5 x87_4).f1)]] (by rfl) rfl rfl (by (try simp only [List.map_toArray, List.map_cons, List.map_nil]); first | done | rfl | (simp only [List.length_drop, List.length_take]; rfl)) ?_
                  with_reducible refine (lsa_prefix.calls ((rd_T76 l0_5 x87_4).f0) ((rd_T76 l0_5 x87_4).f1) true _ A58.out).mono ?_
                  rintro e w71 ⟨rfl, hb⟩
                  refine ⟨_, rfl, ?_⟩
                  replace BK121 := bb_ BK121 hb
                  replace BK130 := bb_ BK130 hb
                  replace HB := Aside0.mk (below_step (by repeat (first | (with_reducible first | exact HB.out | apply bU | apply bS GE121.out | apply bS GE130.out) | exact HB.out)) hb)
                  (try clear hb)
                  refine hK.out _ _ ⟨(blk_cell BK130.out 0).trans rfl, (blk_cell BK130.out 1).trans rfl⟩ (fun hHeld => ?_)
                  clear hK K
                  refine norm_ (a' := ?_) ?_ ?_
                  rotate_left
                  ·show Act.put _ (some 93) _ = _
                   simp only [Act.put, List.setIfInBounds_toArray, List.set_cons_zero, List.set_cons_succ, i64_w, i32_w]
                   rfl
                  refine py 2 94 HT_ ?_
                  refine py 3 95 HT_ ?_
                  refine py 4 96 HT_ ?_
                  refine py 5 97 HT_ ?_
                  refine py 6 98 HT_ ?_
                  refine pu 7 99 HT_ ?_
                  refine pu 8 100 HT_ ?_
                  refine pu 9 101 HT_ ?_
                  refine pu 10 102 HT_ ?_
                  refine pu 11 103 HT_ ?_
                  refine pu 12 104 HT_ ?_
                  refine pu 13 105 HT_ ?_
                  refine pu 14 106 HT_ ?_
                  refine pu 15 107 HT_ ?_
                  refine py 16 108 HT_ ?_
                  refine py 17 109 HT_ ?_
                  refine done_ (done_of HT_.out (by kernel_rfl)) ?_
                  try go_wp2
                  go_meet
                  case rel => exact ⟨_, (false), (by first | rfl | (simp; done) | (simp [*]; done)), H', ⟨by have := HJ1.out; have := HJ16.out; have := HK3.out; have := HK4.out; first | omega | exact Nat.le_refl _⟩, ⟨kb_ BK121⟩, ⟨kb_ BK130⟩, ⟨by repeat (first | (with_reducible first | exact HB.out | apply bU | apply bS GE121.out | apply bS GE130.out) | exact HB.out)⟩⟩
                ·replace c59 := Bool.eq_false_iff.mpr c59
                 subst c59
                 have H1 : (lsa_Valid.j5 k4 l0_5 (l0_5.length : Int) x87_4 true a0_0 a0_1 a0_2 a0_3 l0_4 l0_5) = some r := by rw [if_neg (show ¬ (false = true) by decide)] at H; exact H
                 clear H
                 have H := H1
                 clear H1
                 have H' := Aside0.mk H
                 clear H
                 try go_wp2
                 have n0_ : Aside0 (((w55.setCell ⟨gb130, 0, none⟩ (.int .u32 ((rd_T76 l0_5 x87_4).f0))).setCell ⟨gb130, 1, none⟩ (.int .i64 ((rd_T76 l0_5 x87_4).f1))).heap[gb121]? = some (.cells #[.int .i64 a0_0, .int .i64 a0_1, .int .i64 a0_2, .bool a0_3, .slice A0_4 l0_4.length c0_4, .slice (some ad129) l0_5.length c0_5] 32 (0, 0))) := ⟨by (with_reducible repeat (first | refine blk_drewN ?_ _ | refine blk_drew ?_ | refine blk_alloc ?_ _)); refine blk_far ?_ NB121_130.out _; (with_reducible repeat (first | refine blk_drewN ?_ _ | refine blk_drew ?_ | refine blk_alloc ?_ _)); refine blk_far ?_ NB121_130.out _; (with_reducible repeat (first | refine blk_drewN ?_ _ | refine blk_drew ?_ | refine blk_alloc ?_ _)); exact BK121.out⟩
                 have n1_ : Aside0 (((w55.setCell ⟨gb130, 0, none⟩ (.int .u32 ((rd_T76 l0_5 x87_4).f0))).setCell ⟨gb130, 1, none⟩ (.int .i64 ((rd_T76 l0_5 x87_4).f1))).heap[gb130]? = some (.cells #[.int .u32 ((rd_T76 l0_5 x87_4).f0), .int .i64 ((rd_T76 l0_5 x87_4).f1)] 76 (0, 0))) := ⟨by (with_reducible repeat (first | refine blk_drewN ?_ _ | refine blk_drew ?_ | refine blk_alloc ?_ _)); refine blk_put (cs := #[.int .u32 ((rd_T76 l0_5 x87_4).f0), .int .i64 0]) ?_ 1 _ rfl; (with_reducible repeat (first | refine blk_drewN ?_ _ | refine blk_drew ?_ | refine blk_alloc ?_ _)); refine blk_put (cs := #[.int .u32 0, .int .i64 0]) ?_ 0 _ rfl; (with_reducible repeat (first | refine blk_drewN ?_ _ | refine blk_drew ?_ | refine blk_alloc ?_ _)); exact BK130.out⟩
                 have n2_ : Aside0 (Below w.heap.size w ((w55.setCell ⟨gb130, 0, none⟩ (.int .u32 ((rd_T76 l0_5 x87_4).f0))).setCell ⟨gb130, 1, none⟩ (.int .i64 ((rd_T76 l0_5 x87_4).f1)))) := ⟨by repeat (first | (with_reducible first | exact HB.out | apply bU | apply bS GE121.out | apply bS GE130.out) | exact HB.out)⟩
                 (try clear BK121)
                 (try clear BK130)
                 (try clear HB)
                 generalize ((w55.setCell ⟨gb130, 0, none⟩ (.int .u32 ((rd_T76 l0_5 x87_4).f0))).setCell ⟨gb130, 1, none⟩ (.int .i64 ((rd_T76 l0_5 x87_4).f1))) = w72 at n0_ n1_ n2_ ⊢
                 have BK121 := n0_
                 have BK130 := n1_
                 have HB := n2_
                 clear n0_ n1_ n2_
                 replace BK121 := Aside0.mk (blk_drew BK121.out)
                 replace BK130 := Aside0.mk (blk_drew BK130.out)
                 replace HB := Aside0.mk (below_drew1 HB.out)
                 refine start_ (n := 18) (S := fun w' => w'.cell? ⟨gb130, 0, none⟩ = some (.int .u32 ((rd_T76 l0_5 x87_4).f0)) ∧ w'.cell? ⟨gb130, 1, none⟩ = some (.int .i64 ((rd_T76 l0_5 x87_4).f1))) (ds := []) #[false, false, false, false, false, false, false, false, false, false, false, false, false, false, false, false, false, false] (by kernel_rfl) rfl rfl ⟨(blk_cell BK130.out 0).trans rfl, (blk_cell BK130.out 1).trans rfl⟩ (fun hHeld => ?_); refine with_tabW lsa_Valid.tab14 lsa_Valid.bits14 (fun HT_ HW_ => ?_)
                 generalize w72.drew = w73 at BK121 BK130 HB hHeld ⊢
                 refine ty 0 92 HT_ HW_ rfl (Or.inl ⟨by rfl, by rintro w' ⟨s0, s1⟩; go_simp; with_reducible rfl⟩) hHeld ?_
                 refine one_ (i := 1) (N := some 93) #[true, true, false, false, false, false, false, false, false, false, false, false, false, false, false, false, false, false] rfl rfl (one_of HT_.out (by kernel_rfl)) (by decide) (fun K hK => ?_)
                 refine goes_ Try.func37 (by kernel_rfl) rfl #[.agg #[.int .u32 ((rd_T76 l0_5 x87_4).f0), .int .i64 ((rd_T76 l0_5 x87_4).f1)]] (by rfl) rfl rfl (by (try simp only [List.map_toArray, List.map_cons, List.map_nil]); first | done | rfl | (simp only [List.length_drop, List.length_take]; rfl)) ?_
                 with_reducible refine (lsa_prefix.calls ((rd_T76 l0_5 x87_4).f0) ((rd_T76 l0_5 x87_4).f1) false _ A58.out).mono ?_
                 rintro e w74 ⟨rfl, hb⟩
                 refine ⟨_, rfl, ?_⟩
                 replace BK121 := bb_ BK121 hb
                 replace BK130 := bb_ BK130 hb
                 replace HB := Aside0.mk (below_step (by repeat (first | (with_reducible first | exact HB.out | apply bU | apply bS GE121.out | apply bS GE130.out) | exact HB.out)) hb)
                 (try clear hb)
                 refine hK.out _ _ ⟨(blk_cell BK130.out 0).trans rfl, (blk_cell BK130.out 1).trans rfl⟩ (fun hHeld => ?_)
                 clear hK K
                 refine norm_ (a' := ?_) ?_ ?_
                 rotate_left
                 ·show Act.put _ (some 93) _ = _
                  simp only [Act.put, List.setIfInBounds_toArray, List.set_cons_zero, List.set_cons_succ, i64_w, i32_w]
                  rfl
                 refine py 2 94 HT_ ?_
                 refine py 3 95 HT_ ?_
                 refine pu 4 96 HT_ ?_
                 refine pu 5 97 HT_ ?_
                 refine pu 6 98 HT_ ?_
                 refine pu 7 99 HT_ ?_
                 refine pu 8 100 HT_ ?_
                 refine pu 9 101 HT_ ?_
                 refine pu 10 102 HT_ ?_
                 refine pu 11 103 HT_ ?_
                 refine pu 12 104 HT_ ?_
                 refine pu 13 105 HT_ ?_
                 refine pu 14 106 HT_ ?_
                 refine pu 15 107 HT_ ?_
                 refine pu 16 108 HT_ ?_
                 refine py 17 109 HT_ ?_
                 refine done_ (done_of HT_.out (by kernel_rfl)) ?_
                 try go_wp2
                 go_meet
                 case rel => exact ⟨_, (true), (by first | rfl | (simp; done) | (simp [*]; done)), H', ⟨by have := HJ1.out; have := HJ16.out; have := HK3.out; have := HK4.out; first | omega | exact Nat.le_refl _⟩, ⟨kb_ BK121⟩, ⟨kb_ BK130⟩, ⟨by repeat (first | (with_reducible first | exact HB.out | apply bU | apply bS GE121.out | apply bS GE130.out) | exact HB.out)⟩⟩
               case rest =>
                clear HC54
                (try clear c51); (try clear c51b0); (try clear c52); (try clear c52b0); (try clear c53); (try clear c53b0); (try clear hcz57_0); (try clear hcz57_1); (try clear hfz57_0); (try clear hfz57_1); (try clear hx129_0); (try clear hx129_1); (try clear p129); (try clear q129)
                obtain ⟨kq, x109_53, rfl, HA, HJ53, BK121, BK130, HB⟩ := hcut
                cases kq with
                | zero => exact absurd HA.out (by simp [lsa_Valid.j5])
                | succ kj53 =>
                 have H := HA.out
                 clear HA
                 simp only [lsa_Valid.j5] at H
                 by_cases c75 : x109_53 = true
                 ·subst c75
                  have H1 : (some false) = some r := by rw [if_pos rfl] at H; exact H
                  clear H
                  have H := H1
                  clear H1
                  obtain rfl := Option.some.inj H
                  go_wp2
                  go_ret
                  exact ⟨by first | rfl | (simp [errW_none, errW_some] <;> rfl) | (simp [*, errW_none, errW_some] <;> rfl), by repeat (first | (with_reducible first | exact HB.out | apply bU | apply bS GE121.out | apply bS GE130.out) | exact HB.out)⟩
                 ·replace c75 := Bool.eq_false_iff.mpr c75
                  subst c75
                  have H1 : (lsa_Valid.l1 kj53 l0_5 (l0_5.length : Int) (wrap64 (x87_4 + 1)) a0_0 a0_1 a0_2 a0_3 l0_4 l0_5) = some r := by rw [if_neg (show ¬ (false = true) by decide)] at H; exact H
                  clear H
                  have H := H1
                  clear H1
                  have H' := Aside0.mk H
                  clear H
                  go_wp2
                  go_roundg kj53
                  case measure => have := HJ1.out; have := HJ16.out; have := HK3.out; have := HK4.out; have := HJ53.out; omega
                  case rel => exact ⟨(wrap64 (x87_4 + 1)), (by first | rfl | (simp; done) | (simp [*]; done)), H', ⟨by have := HJ1.out; have := HJ16.out; have := HK3.out; have := HK4.out; have := HJ53.out; omega⟩, ⟨kb_ BK121⟩, ⟨by repeat (first | (with_reducible first | exact HB.out | apply bU | apply bS GE121.out | apply bS GE130.out) | exact HB.out)⟩⟩
              ·rw [if_neg c53] at H
               exact absurd H (by simp)
             ·rw [if_neg c52] at H
              exact absurd H (by simp)
            ·rw [if_neg c51] at H
             have c51b0 : decide (x87_4 < (l0_5.length : Int)) = false := decide_eq_false c51
             clear c51
             obtain rfl := Option.some.inj H
             go_wp2
             go_ret
             exact ⟨by first | rfl | (simp [errW_none, errW_some] <;> rfl) | (simp [*, errW_none, errW_some] <;> rfl), by repeat (first | (with_reducible first | exact HB.out | apply bU | apply bS GE121.out) | exact HB.out)⟩

end Go.Proofs.Ytdkfhlfojleejaa.HLsc
