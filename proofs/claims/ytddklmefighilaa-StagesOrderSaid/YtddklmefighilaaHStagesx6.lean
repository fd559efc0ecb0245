-- LAID by wip/hand.py, a program of this repository, over the kit's print: contracts of our own are put in. Lean checks it.
import Derived.Test.YtddklmefighilaaHStagesx0
import Derived.Test.YtddklmefighilaaHStagesx2
import Derived.Test.YtddklmefighilaaHStagesx3
import Derived.Test.YtddklmefighilaaHStagesx4
namespace Go.Proofs.Ytddklmefighilaa.HStages
open Go.RowKit Go.Proofs.YtddklmefighilaaW.PrintWords Go.Proofs.YtddklmefighilaaW.PrintLast Go.Proofs.YtddklmefighilaaW.PrintMore
attribute [local go_sem] max2_int min2_int max_two min_two max_three min_three max_four min_four   -- for this text's walks alone
set_option linter.unusedVariables false
set_option linter.unusedSimpArgs false

attribute [local go_sem high] eqA30
/-! ### waypointlaw37_StagesOrder: function 5 -/
def waypointlaw37_StagesOrder.j0 : Nat → Int → List Int → Bool → Int → Int → Int → Int → Option (Bool)
  | 0, _, _, _, _, _, _, _ => none
  | k + 1, x2, x11, x55, x189000, x189001, x202000, x202001 => if x55 = true then (none) else (if (wrap64 (x2)) < x189000 then (if (x202000 == 0 && (x202001 == (wrap64 (x189000 - (wrap64 (x2)))))) = true then (some ((x11.length : Int) == 0)) else (none)) else (if (wrap64 (x2)) < (wrap64 (x189000 + x189001)) then (if (x202000 == 2 && (x202001 == (wrap64 ((wrap64 (x189000 + x189001)) - (wrap64 (x2)))))) = true then ((waypointref37_Same.f k x11 (([2] : List Int))).bind fun t207 => (some t207)) else (none)) else (if (x202000 == 3 && (x202001 == 0)) = true then ((waypointref37_Same.f k x11 (([2, 3] : List Int))).bind fun t211 => (some t211)) else (none))))
def waypointlaw37_StagesOrder.f (k : Nat) (a0 : Int) (a1 : Int) (a2 : Int) : Option (Bool) := (waypointlaw37_awake.f k).bind fun t187 => (if t187 = true then ((stages_Start.f).bind fun bt189 => ((stages_Change.f k bt189.1 bt189.2 (wrap64 (1 + (wrap64 (a0)))) (wrap64 (1 + (wrap64 (a1))))).bind fun bt191 => ((stages_Tick.f k bt191.1 bt191.2.1 (wrap64 (1 + (wrap64 (a0)))) (wrap64 (1 + (wrap64 (a1)))) (wrap64 (a2))).bind fun bt195 => (if bt191.2.2 = 0 then (if bt195.2.2.2 = 0 then ((stages_Valid.f k bt191.1 bt191.2.1 (wrap64 (1 + (wrap64 (a0)))) (wrap64 (1 + (wrap64 (a1))))).bind fun t202 => (if t202 = true then ((stages_Valid.f k bt195.1 bt195.2.1 (wrap64 (1 + (wrap64 (a0)))) (wrap64 (1 + (wrap64 (a1))))).bind fun t203 => (waypointlaw37_StagesOrder.j0 k a2 bt195.2.2.1 (!t203) (wrap64 (1 + (wrap64 (a0)))) (wrap64 (1 + (wrap64 (a1)))) bt195.1 bt195.2.1)) else (waypointlaw37_StagesOrder.j0 k a2 bt195.2.2.1 true (wrap64 (1 + (wrap64 (a0)))) (wrap64 (1 + (wrap64 (a1)))) bt195.1 bt195.2.1))) else (waypointlaw37_StagesOrder.j0 k a2 bt195.2.2.1 true (wrap64 (1 + (wrap64 (a0)))) (wrap64 (1 + (wrap64 (a1)))) bt195.1 bt195.2.1)) else (waypointlaw37_StagesOrder.j0 k a2 bt195.2.2.1 true (wrap64 (1 + (wrap64 (a0)))) (wrap64 (1 + (wrap64 (a1)))) bt195.1 bt195.2.1))))) else (none))
theorem waypointlaw37_StagesOrder.mono_l : ∀ k, (∀ y0 y1 y2 y3 y4 y5 y6, LeO (waypointlaw37_StagesOrder.j0 k y0 y1 y2 y3 y4 y5 y6) (waypointlaw37_StagesOrder.j0 (k + 1) y0 y1 y2 y3 y4 y5 y6))
  | 0 => fun _ _ _ _ _ _ _ r h => by simp [waypointlaw37_StagesOrder.j0] at h
  | k + 1 => by
    have ih0 := waypointlaw37_StagesOrder.mono_l k
    · intro y0 y1 y2 y3 y4 y5 y6
      unfold waypointlaw37_StagesOrder.j0
      repeat' first
      | (with_reducible exact ih0 _ _ _ _ _ _ _)
      | (with_reducible exact stages_Change.mono _ _ _ _ _)
      | (with_reducible exact stages_Tick.mono _ _ _ _ _ _)
      | (with_reducible exact stages_Valid.mono _ _ _ _ _)
      | (with_reducible exact waypointlaw37_awake.mono _)
      | (with_reducible exact waypointref37_Same.mono _ _ _)
      | (with_reducible exact LeO.refl _)
      | (with_reducible exact LeO.none _)
      | (with_reducible refine LeO.ite ?_ ?_)
      | (with_reducible refine LeO.bind ?_ (fun _ => ?_))
      | exact ih0 _ _ _ _ _ _ _
      | exact stages_Change.mono _ _ _ _ _
      | exact stages_Tick.mono _ _ _ _ _ _
      | exact stages_Valid.mono _ _ _ _ _
      | exact waypointlaw37_awake.mono _
      | exact waypointref37_Same.mono _ _ _
      | exact LeO.none _
      | refine LeO.ite ?_ ?_
      | refine LeO.bind ?_ (fun _ => ?_)
theorem waypointlaw37_StagesOrder.mono : ∀ a0 a1 a2 k, LeO (waypointlaw37_StagesOrder.f k a0 a1 a2) (waypointlaw37_StagesOrder.f (k + 1) a0 a1 a2) := by
  intro a0 a1 a2 k
  have ih0 := waypointlaw37_StagesOrder.mono_l k
  unfold waypointlaw37_StagesOrder.f
  repeat' first
      | (with_reducible exact ih0 _ _ _ _ _ _ _)
      | (with_reducible exact stages_Change.mono _ _ _ _ _)
      | (with_reducible exact stages_Tick.mono _ _ _ _ _ _)
      | (with_reducible exact stages_Valid.mono _ _ _ _ _)
      | (with_reducible exact waypointlaw37_awake.mono _)
      | (with_reducible exact waypointref37_Same.mono _ _ _)
      | (with_reducible exact LeO.refl _)
      | (with_reducible exact LeO.none _)
      | (with_reducible refine LeO.ite ?_ ?_)
      | (with_reducible refine LeO.bind ?_ (fun _ => ?_))
      | exact ih0 _ _ _ _ _ _ _
      | exact stages_Change.mono _ _ _ _ _
      | exact stages_Tick.mono _ _ _ _ _ _
      | exact stages_Valid.mono _ _ _ _ _
      | exact waypointlaw37_awake.mono _
      | exact waypointref37_Same.mono _ _ _
      | exact LeO.none _
      | refine LeO.ite ?_ ?_
      | refine LeO.bind ?_ (fun _ => ?_)
def waypointlaw37_StagesOrder.T4 : Bool × List (List Nat × List Nat) := (true, [([], []), ([], []), ([0, 1, 0], [0, 1]), ([2], [2]), ([3], [3]), ([3], [3]), ([], []), ([6, 4, 2, 0, 1, 2, 3, 4, 6], [4, 6]), ([5, 7, 0, 1, 2, 3, 4, 5, 6, 7], [5])])
def waypointlaw37_StagesOrder.B4 : List Nat := [0, 0, 3, 7, 15, 15, 0, 95, 255]
theorem waypointlaw37_StagesOrder.tab4 : rtab .any (opsOf Try.f5 4) = waypointlaw37_StagesOrder.T4 := by kernel_rfl
theorem waypointlaw37_StagesOrder.bits4 : waitsOk waypointlaw37_StagesOrder.T4.2 waypointlaw37_StagesOrder.B4 = true := by kernel_rfl
set_option maxHeartbeats 8000000 in
set_option maxRecDepth 100000 in
theorem waypointlaw37_StagesOrder.calls (k : Nat) (a0 : Int) (a1 : Int) (a2 : Int) (r : Bool) (w : World) (h : waypointlaw37_StagesOrder.f k a0 a1 a2 = some r) :
    Calls Try.prog 5 #[.int .u16 a0, .int .u16 a1, .int .u32 a2] w fun e w' => e = .returned (.bool r) ∧ Below w.heap.size w w' := by
  have hu34 := Try.underlying34
  have hu30 := Try.underlying30
  have HB := Aside0.mk (Below.refl w.heap.size w)
  have H : ((waypointlaw37_awake.f k).bind fun t187 => (if t187 = true then ((stages_Start.f).bind fun bt189 => ((stages_Change.f k bt189.1 bt189.2 (wrap64 (1 + (wrap64 (a0)))) (wrap64 (1 + (wrap64 (a1))))).bind fun bt191 => ((stages_Tick.f k bt191.1 bt191.2.1 (wrap64 (1 + (wrap64 (a0)))) (wrap64 (1 + (wrap64 (a1)))) (wrap64 (a2))).bind fun bt195 => (if bt191.2.2 = 0 then (if bt195.2.2.2 = 0 then ((stages_Valid.f k bt191.1 bt191.2.1 (wrap64 (1 + (wrap64 (a0)))) (wrap64 (1 + (wrap64 (a1))))).bind fun t202 => (if t202 = true then ((stages_Valid.f k bt195.1 bt195.2.1 (wrap64 (1 + (wrap64 (a0)))) (wrap64 (1 + (wrap64 (a1))))).bind fun t203 => (waypointlaw37_StagesOrder.j0 k a2 bt195.2.2.1 (!t203) (wrap64 (1 + (wrap64 (a0)))) (wrap64 (1 + (wrap64 (a1)))) bt195.1 bt195.2.1)) else (waypointlaw37_StagesOrder.j0 k a2 bt195.2.2.1 true (wrap64 (1 + (wrap64 (a0)))) (wrap64 (1 + (wrap64 (a1)))) bt195.1 bt195.2.1))) else (waypointlaw37_StagesOrder.j0 k a2 bt195.2.2.1 true (wrap64 (1 + (wrap64 (a0)))) (wrap64 (1 + (wrap64 (a1)))) bt195.1 bt195.2.1)) else (waypointlaw37_StagesOrder.j0 k a2 bt195.2.2.1 true (wrap64 (1 + (wrap64 (a0)))) (wrap64 (1 + (wrap64 (a1)))) bt195.1 bt195.2.1))))) else (none))) = some r := h
  clear h
  replace H := Option.bind_eq_some_iff.mp H
  obtain ⟨t187, A40, H⟩ := H
  replace H : (if t187 = true then ((stages_Start.f).bind fun bt189 => ((stages_Change.f k bt189.1 bt189.2 (wrap64 (1 + (wrap64 (a0)))) (wrap64 (1 + (wrap64 (a1))))).bind fun bt191 => ((stages_Tick.f k bt191.1 bt191.2.1 (wrap64 (1 + (wrap64 (a0)))) (wrap64 (1 + (wrap64 (a1)))) (wrap64 (a2))).bind fun bt195 => (if bt191.2.2 = 0 then (if bt195.2.2.2 = 0 then ((stages_Valid.f k bt191.1 bt191.2.1 (wrap64 (1 + (wrap64 (a0)))) (wrap64 (1 + (wrap64 (a1))))).bind fun t202 => (if t202 = true then ((stages_Valid.f k bt195.1 bt195.2.1 (wrap64 (1 + (wrap64 (a0)))) (wrap64 (1 + (wrap64 (a1))))).bind fun t203 => (waypointlaw37_StagesOrder.j0 k a2 bt195.2.2.1 (!t203) (wrap64 (1 + (wrap64 (a0)))) (wrap64 (1 + (wrap64 (a1)))) bt195.1 bt195.2.1)) else (waypointlaw37_StagesOrder.j0 k a2 bt195.2.2.1 true (wrap64 (1 + (wrap64 (a0)))) (wrap64 (1 + (wrap64 (a1)))) bt195.1 bt195.2.1))) else (waypointlaw37_StagesOrder.j0 k a2 bt195.2.2.1 true (wrap64 (1 + (wrap64 (a0)))) (wrap64 (1 + (wrap64 (a1)))) bt195.1 bt195.2.1)) else (waypointlaw37_StagesOrder.j0 k a2 bt195.2.2.1 true (wrap64 (1 + (wrap64 (a0)))) (wrap64 (1 + (wrap64 (a1)))) bt195.1 bt195.2.1))))) else (none)) = some r := H
  have A4 := Aside0.mk A40
  clear A40
  by_cases c5 : t187 = true
  · subst c5
    have H1 : ((stages_Start.f).bind fun bt189 => ((stages_Change.f k bt189.1 bt189.2 (wrap64 (1 + (wrap64 (a0)))) (wrap64 (1 + (wrap64 (a1))))).bind fun bt191 => ((stages_Tick.f k bt191.1 bt191.2.1 (wrap64 (1 + (wrap64 (a0)))) (wrap64 (1 + (wrap64 (a1)))) (wrap64 (a2))).bind fun bt195 => (if bt191.2.2 = 0 then (if bt195.2.2.2 = 0 then ((stages_Valid.f k bt191.1 bt191.2.1 (wrap64 (1 + (wrap64 (a0)))) (wrap64 (1 + (wrap64 (a1))))).bind fun t202 => (if t202 = true then ((stages_Valid.f k bt195.1 bt195.2.1 (wrap64 (1 + (wrap64 (a0)))) (wrap64 (1 + (wrap64 (a1))))).bind fun t203 => (waypointlaw37_StagesOrder.j0 k a2 bt195.2.2.1 (!t203) (wrap64 (1 + (wrap64 (a0)))) (wrap64 (1 + (wrap64 (a1)))) bt195.1 bt195.2.1)) else (waypointlaw37_StagesOrder.j0 k a2 bt195.2.2.1 true (wrap64 (1 + (wrap64 (a0)))) (wrap64 (1 + (wrap64 (a1)))) bt195.1 bt195.2.1))) else (waypointlaw37_StagesOrder.j0 k a2 bt195.2.2.1 true (wrap64 (1 + (wrap64 (a0)))) (wrap64 (1 + (wrap64 (a1)))) bt195.1 bt195.2.1)) else (waypointlaw37_StagesOrder.j0 k a2 bt195.2.2.1 true (wrap64 (1 + (wrap64 (a0)))) (wrap64 (1 + (wrap64 (a1)))) bt195.1 bt195.2.1))))) = some r := by rw [if_pos rfl] at H; exact H
    clear H
    have H := H1
    clear H1
    replace H := Option.bind_eq_some_iff.mp H
    obtain ⟨⟨t189, t190⟩, A60, H⟩ := H
    replace H : ((stages_Change.f k t189 t190 (wrap64 (1 + (wrap64 (a0)))) (wrap64 (1 + (wrap64 (a1))))).bind fun bt191 => ((stages_Tick.f k bt191.1 bt191.2.1 (wrap64 (1 + (wrap64 (a0)))) (wrap64 (1 + (wrap64 (a1)))) (wrap64 (a2))).bind fun bt195 => (if bt191.2.2 = 0 then (if bt195.2.2.2 = 0 then ((stages_Valid.f k bt191.1 bt191.2.1 (wrap64 (1 + (wrap64 (a0)))) (wrap64 (1 + (wrap64 (a1))))).bind fun t202 => (if t202 = true then ((stages_Valid.f k bt195.1 bt195.2.1 (wrap64 (1 + (wrap64 (a0)))) (wrap64 (1 + (wrap64 (a1))))).bind fun t203 => (waypointlaw37_StagesOrder.j0 k a2 bt195.2.2.1 (!t203) (wrap64 (1 + (wrap64 (a0)))) (wrap64 (1 + (wrap64 (a1)))) bt195.1 bt195.2.1)) else (waypointlaw37_StagesOrder.j0 k a2 bt195.2.2.1 true (wrap64 (1 + (wrap64 (a0)))) (wrap64 (1 + (wrap64 (a1)))) bt195.1 bt195.2.1))) else (waypointlaw37_StagesOrder.j0 k a2 bt195.2.2.1 true (wrap64 (1 + (wrap64 (a0)))) (wrap64 (1 + (wrap64 (a1)))) bt195.1 bt195.2.1)) else (waypointlaw37_StagesOrder.j0 k a2 bt195.2.2.1 true (wrap64 (1 + (wrap64 (a0)))) (wrap64 (1 + (wrap64 (a1)))) bt195.1 bt195.2.1)))) = some r := H
    have A6 := Aside0.mk A60
    clear A60
    replace H := Option.bind_eq_some_iff.mp H
    obtain ⟨⟨t191, t192, t193⟩, A70, H⟩ := H
    replace H : ((stages_Tick.f k t191 t192 (wrap64 (1 + (wrap64 (a0)))) (wrap64 (1 + (wrap64 (a1)))) (wrap64 (a2))).bind fun bt195 => (if t193 = 0 then (if bt195.2.2.2 = 0 then ((stages_Valid.f k t191 t192 (wrap64 (1 + (wrap64 (a0)))) (wrap64 (1 + (wrap64 (a1))))).bind fun t202 => (if t202 = true then ((stages_Valid.f k bt195.1 bt195.2.1 (wrap64 (1 + (wrap64 (a0)))) (wrap64 (1 + (wrap64 (a1))))).bind fun t203 => (waypointlaw37_StagesOrder.j0 k a2 bt195.2.2.1 (!t203) (wrap64 (1 + (wrap64 (a0)))) (wrap64 (1 + (wrap64 (a1)))) bt195.1 bt195.2.1)) else (waypointlaw37_StagesOrder.j0 k a2 bt195.2.2.1 true (wrap64 (1 + (wrap64 (a0)))) (wrap64 (1 + (wrap64 (a1)))) bt195.1 bt195.2.1))) else (waypointlaw37_StagesOrder.j0 k a2 bt195.2.2.1 true (wrap64 (1 + (wrap64 (a0)))) (wrap64 (1 + (wrap64 (a1)))) bt195.1 bt195.2.1)) else (waypointlaw37_StagesOrder.j0 k a2 bt195.2.2.1 true (wrap64 (1 + (wrap64 (a0)))) (wrap64 (1 + (wrap64 (a1)))) bt195.1 bt195.2.1))) = some r := H
    have A7 := Aside0.mk A70
    clear A70
    replace H := Option.bind_eq_some_iff.mp H
    obtain ⟨⟨t195, t196, t197, t200⟩, A80, H⟩ := H
    replace H : (if t193 = 0 then (if t200 = 0 then ((stages_Valid.f k t191 t192 (wrap64 (1 + (wrap64 (a0)))) (wrap64 (1 + (wrap64 (a1))))).bind fun t202 => (if t202 = true then ((stages_Valid.f k t195 t196 (wrap64 (1 + (wrap64 (a0)))) (wrap64 (1 + (wrap64 (a1))))).bind fun t203 => (waypointlaw37_StagesOrder.j0 k a2 t197 (!t203) (wrap64 (1 + (wrap64 (a0)))) (wrap64 (1 + (wrap64 (a1)))) t195 t196)) else (waypointlaw37_StagesOrder.j0 k a2 t197 true (wrap64 (1 + (wrap64 (a0)))) (wrap64 (1 + (wrap64 (a1)))) t195 t196))) else (waypointlaw37_StagesOrder.j0 k a2 t197 true (wrap64 (1 + (wrap64 (a0)))) (wrap64 (1 + (wrap64 (a1)))) t195 t196)) else (waypointlaw37_StagesOrder.j0 k a2 t197 true (wrap64 (1 + (wrap64 (a0)))) (wrap64 (1 + (wrap64 (a1)))) t195 t196)) = some r := H
    have A8 := Aside0.mk A80
    clear A80
    have HC9 := Aside0.mk H
    clear H
    go_enter Try.func5, Try.ntmps5
    try go_wp2_with (first | ((with_reducible refine gate_callee (f := 17) rfl ?_); refine goesL_ (some 14) rfl rfl Try.func17 (by kernel_rfl) rfl #[] rfl (by (try simp only [List.map_toArray, List.map_cons, List.map_nil]); first | done | rfl | (simp only [List.length_drop, List.length_take]; rfl)) ?_; (with_reducible refine (waypointlaw37_awake.calls k  true _ A4.out).mono ?_); rintro e w10 ⟨rfl, hb⟩; refine ⟨_, rfl, ?_⟩; have n0_ := Aside0.mk (below_step (by repeat (first | (with_reducible first | exact HB.out | apply below_alloc | apply pw_below_drewN | apply below_drew1) | exact HB.out)) hb); clear HB; have HB := n0_; clear n0_; (try clear hb); (try clear hb2); (try clear hk); (try clear hi)) | ((with_reducible refine gate_dst (N := 7) rfl ?_); (try (refine gate_guard (by rfl) ?_; dsimp only)); refine box_event ?hg (N := 7) ?hd (cs := #[.int .i64 0, .int .i64 0]) (t := 34) ?hr ?_; (case hd => rfl); (case hg => rfl); (case hr => first | (go_simp; done) | (go_simp; rfl)); intro gb188 hg w11 hbox hb; have n0_ := Aside0.mk (below_step (by repeat (first | (with_reducible first | exact HB.out | apply below_alloc | apply pw_below_drewN | apply below_drew1) | exact HB.out)) hb); have n1_ := Aside0.mk (hbox); have n2_ := Aside0.mk ((by rw [hg]; exact (below_size (by repeat (first | (with_reducible first | exact HB.out | apply below_alloc | apply pw_below_drewN | apply below_drew1) | exact HB.out))) : w.heap.size ≤ gb188)); have n3_ := Aside0.mk ((by rw [hg]; exact (below_size (by repeat (first | (with_reducible first | exact HB.out | apply below_alloc | apply pw_below_drewN | apply below_drew1) | exact HB.out))) : w.heap.size ≤ gb188)); clear HB; have HB := n0_; have BK188 := n1_; have GW188 := n2_; have GE188 := n3_; clear n0_ n1_ n2_ n3_; clear hb hbox hg; have hcz12_0 : w11.cell? ⟨gb188, 0, none⟩ = some (.int .i64 0) := (blk_cell BK188.out 0).trans rfl; have hcz12_1 : w11.cell? ⟨gb188, 1, none⟩ = some (.int .i64 0) := (blk_cell BK188.out 1).trans rfl; have hfz12_0 := blk_frozen BK188.out 0; have hfz12_1 := blk_frozen BK188.out 1))
    have n0_ : Aside0 (((w11.setCell ⟨gb188, 0, none⟩ (.int .i64 (wrap64 (1 + (wrap64 (a0)))))).setCell ⟨gb188, 1, none⟩ (.int .i64 (wrap64 (1 + (wrap64 (a1)))))).heap[gb188]? = some (.cells #[.int .i64 (wrap64 (1 + (wrap64 (a0)))), .int .i64 (wrap64 (1 + (wrap64 (a1))))] 34 (0, 0))) := ⟨by (with_reducible repeat (first | refine blk_drewN ?_ _ | refine blk_drew ?_ | refine blk_alloc ?_ _)); refine blk_put (cs := #[.int .i64 (wrap64 (1 + (wrap64 (a0)))), .int .i64 0]) ?_ 1 _ rfl; (with_reducible repeat (first | refine blk_drewN ?_ _ | refine blk_drew ?_ | refine blk_alloc ?_ _)); refine blk_put (cs := #[.int .i64 0, .int .i64 0]) ?_ 0 _ rfl; (with_reducible repeat (first | refine blk_drewN ?_ _ | refine blk_drew ?_ | refine blk_alloc ?_ _)); exact BK188.out⟩
    have n1_ : Aside0 (Below w.heap.size w ((w11.setCell ⟨gb188, 0, none⟩ (.int .i64 (wrap64 (1 + (wrap64 (a0)))))).setCell ⟨gb188, 1, none⟩ (.int .i64 (wrap64 (1 + (wrap64 (a1))))))) := ⟨by repeat (first | (with_reducible first | exact HB.out | apply below_alloc | apply pw_below_drewN | apply below_drew1 | refine below_set ?_ GE188.out) | exact HB.out)⟩
    (try clear BK188)
    (try clear HB)
    generalize ((w11.setCell ⟨gb188, 0, none⟩ (.int .i64 (wrap64 (1 + (wrap64 (a0)))))).setCell ⟨gb188, 1, none⟩ (.int .i64 (wrap64 (1 + (wrap64 (a1)))))) = w13 at n0_ n1_ ⊢
    have BK188 := n0_
    have HB := n1_
    clear n0_ n1_
    have n0_ := Aside0.mk (blk_drew BK188.out)
    have n1_ := Aside0.mk (below_drew1 HB.out)
    clear BK188
    clear HB
    have BK188 := n0_
    have HB := n1_
    clear n0_ n1_
    refine start_ (n := 9) (S := fun w' => w'.cell? ⟨gb188, 0, none⟩ = some (.int .i64 (wrap64 (1 + (wrap64 (a0))))) ∧ w'.cell? ⟨gb188, 1, none⟩ = some (.int .i64 (wrap64 (1 + (wrap64 (a1)))))) (ds := []) #[false, false, false, false, false, false, false, false, false] (by kernel_rfl) rfl rfl ⟨(blk_cell BK188.out 0).trans rfl, (blk_cell BK188.out 1).trans rfl⟩ (fun hHeld => ?_); refine with_tabW waypointlaw37_StagesOrder.tab4 waypointlaw37_StagesOrder.bits4 (fun HT_ HW_ => ?_)
    generalize w13.drew = w14 at BK188 HB hHeld ⊢
    refine take_ (i := 1) (N := some 25) (v := ?_) (a' := ?_) #[false, true, false, false, false, false, false, false, false] rfl rfl (take_ofW HT_.out HW_.out (by kernel_rfl)) (fun _ _ _ h => h) (Or.inl ⟨by rfl, ?_⟩) hHeld ?_ ?_
    rotate_left
    · rintro w' ⟨s0, s1⟩
      go_simp
      with_reducible rfl
    rotate_left
    · simp only [Act.put, List.setIfInBounds_toArray, List.set_cons_zero, List.set_cons_succ, i64_w, i32_w]
      rfl
    refine join_ (σ := Nat) 2 #[true, true, true, true, true, true, true, false, false] (fun s_ => [(24, .agg #[.int .i64 t189, .int .i64 t190]), (26, .tuple #[.agg #[.int .i64 t191, .int .i64 t192], .int .i64 t193]), (8, .pointer (some ⟨s_, 0, none⟩)), (23, .tuple #[.agg #[.int .i64 t191, .int .i64 t192], .int .i64 t193]), (27, .agg #[.int .i64 t191, .int .i64 t192]), (28, .int .i64 t193)]) (fun s_ w' => (w'.cell? ⟨gb188, 0, none⟩ = some (.int .i64 (wrap64 (1 + (wrap64 (a0))))) ∧ w'.cell? ⟨gb188, 1, none⟩ = some (.int .i64 (wrap64 (1 + (wrap64 (a1)))))) ∧ (w'.heap[gb188]? = some (.cells #[.int .i64 (wrap64 (1 + (wrap64 (a0)))), .int .i64 (wrap64 (1 + (wrap64 (a1))))] 34 (0, 0))) ∧ (w'.heap[s_]? = some (.cells #[.int .i64 0, .int .i64 0] 30 (0, 0))) ∧ (w.heap.size ≤ s_) ∧ (w.heap.size ≤ s_) ∧ (gb188 ≠ s_) ∧ (s_ ≠ gb188) ∧ (Below w.heap.size w w')) ?_ ?_
    rotate_left
    · intro hCont
      refine two_ (i := 0) (j := 6) (Ni := some 24) (Nj := some 8) #[true, true, false, false, false, false, false, false, false] #[false, true, false, false, false, false, true, false, false] rfl rfl rfl rfl (two_of HT_.out (by kernel_rfl)) (by decide) (by decide) (fun K hK => ?_) (fun K hK => ?_)
      · skip
        refine goes_ Try.func23 (by kernel_rfl) rfl #[] (by rfl) rfl rfl (by (try simp only [List.map_toArray, List.map_cons, List.map_nil]); first | done | rfl | (simp only [List.length_drop, List.length_take]; rfl)) ?_
        with_reducible refine (stages_Start.calls  t189 t190 _ A6.out).mono ?_
        rintro e w15 ⟨rfl, hb⟩
        refine ⟨_, rfl, ?_⟩
        have n0_ := Aside0.mk (blk_below (g := gb188) (o := .cells #[.int .i64 (wrap64 (1 + (wrap64 (a0)))), .int .i64 (wrap64 (1 + (wrap64 (a1))))] 34 (0, 0)) (by (with_reducible repeat (first | refine blk_drewN ?_ _ | refine blk_drew ?_ | refine blk_alloc ?_ _)); exact BK188.out) hb)
        have n1_ := Aside0.mk (below_step (by repeat (first | (with_reducible first | exact HB.out | apply below_alloc | apply pw_below_drewN | apply below_drew1 | refine below_set ?_ GE188.out) | exact HB.out)) hb)
        clear BK188
        clear HB
        have BK188 := n0_
        have HB := n1_
        clear n0_ n1_
        (try clear hb)
        (try clear hb2)
        (try clear hk)
        (try clear hi)
        refine hK.out _ _ ⟨(blk_cell BK188.out 0).trans rfl, (blk_cell BK188.out 1).trans rfl⟩ (fun hHeld => ?_)
        clear hK K
        refine norm_ (a' := ?_) ?_ ?_
        rotate_left
        · show Act.put _ (some 24) _ = _
          simp only [Act.put, List.setIfInBounds_toArray, List.set_cons_zero, List.set_cons_succ, i64_w, i32_w]
          rfl
        refine two_ (i := 2) (j := 6) (Ni := some 26) (Nj := some 8) #[true, true, true, false, false, false, false, false, false] #[true, true, false, false, false, false, true, false, false] rfl rfl rfl rfl (two_of HT_.out (by kernel_rfl)) (by decide) (by decide) (fun K hK => ?_) (fun K hK => ?_)
        · skip
          refine goes_ Try.func22 (by kernel_rfl) rfl #[.agg #[.int .i64 t189, .int .i64 t190], .agg #[.int .i64 (wrap64 (1 + (wrap64 (a0)))), .int .i64 (wrap64 (1 + (wrap64 (a1))))]] (by rfl) rfl rfl (by (try simp only [List.map_toArray, List.map_cons, List.map_nil]); first | done | rfl | (simp only [List.length_drop, List.length_take]; rfl)) ?_
          with_reducible refine (stages_Change.calls k t189 t190 (wrap64 (1 + (wrap64 (a0)))) (wrap64 (1 + (wrap64 (a1)))) t191 t192 t193 _ A7.out).mono ?_
          rintro e w16 ⟨rfl, hb⟩
          refine ⟨_, rfl, ?_⟩
          have n0_ := Aside0.mk (blk_below (g := gb188) (o := .cells #[.int .i64 (wrap64 (1 + (wrap64 (a0)))), .int .i64 (wrap64 (1 + (wrap64 (a1))))] 34 (0, 0)) (by (with_reducible repeat (first | refine blk_drewN ?_ _ | refine blk_drew ?_ | refine blk_alloc ?_ _)); exact BK188.out) hb)
          have n1_ := Aside0.mk (below_step (by repeat (first | (with_reducible first | exact HB.out | apply below_alloc | apply pw_below_drewN | apply below_drew1 | refine below_set ?_ GE188.out) | exact HB.out)) hb)
          clear BK188
          clear HB
          have BK188 := n0_
          have HB := n1_
          clear n0_ n1_
          (try clear hb)
          (try clear hb2)
          (try clear hk)
          (try clear hi)
          refine hK.out _ _ ⟨(blk_cell BK188.out 0).trans rfl, (blk_cell BK188.out 1).trans rfl⟩ (fun hHeld => ?_)
          clear hK K
          refine norm_ (a' := ?_) ?_ ?_
          rotate_left
          · show Act.put _ (some 26) _ = _
            simp only [Act.put, List.setIfInBounds_toArray, List.set_cons_zero, List.set_cons_succ, i64_w, i32_w]
            rfl
          refine pure_ (i := 3) (N := some 23) (v := ?_) (a' := ?_) #[true, true, true, true, false, false, false, false, false] rfl rfl (any_of HT_.out (by kernel_rfl)) (fun _ _ _ h => h) (Or.inl ⟨by rfl, ?_⟩) ?_ ?_
          rotate_left
          · intro w'
            go_simp
            with_reducible rfl
          rotate_left
          · simp only [Act.put, List.setIfInBounds_toArray, List.set_cons_zero, List.set_cons_succ, i64_w, i32_w]
            rfl
          refine pure_ (i := 4) (N := some 27) (v := ?_) (a' := ?_) #[true, true, true, true, true, false, false, false, false] rfl rfl (any_of HT_.out (by kernel_rfl)) (fun _ _ _ h => h) (Or.inl ⟨by rfl, ?_⟩) ?_ ?_
          rotate_left
          · intro w'
            go_simp
            with_reducible rfl
          rotate_left
          · simp only [Act.put, List.setIfInBounds_toArray, List.set_cons_zero, List.set_cons_succ, i64_w, i32_w]
            rfl
          refine pure_ (i := 5) (N := some 28) (v := ?_) (a' := ?_) #[true, true, true, true, true, true, false, false, false] rfl rfl (any_of HT_.out (by kernel_rfl)) (fun _ _ _ h => h) (Or.inl ⟨by rfl, ?_⟩) ?_ ?_
          rotate_left
          · intro w'
            go_simp
            with_reducible rfl
          rotate_left
          · simp only [Act.put, List.setIfInBounds_toArray, List.set_cons_zero, List.set_cons_succ, i64_w, i32_w]
            rfl
          refine one_ (i := 6) (N := some 8) #[true, true, true, true, true, true, true, false, false] rfl rfl (one_of HT_.out (by kernel_rfl)) (by decide) (fun K hK => ?_)
          refine box_step ?hg (N := 8) ?hd (cs := #[.int .i64 0, .int .i64 0]) (t := 30) ?hr ?_; (case hd => rfl); (case hg => rfl); (case hr => first | (go_simp; done) | (go_simp; rfl))
          intro gb194 hg w17 hbox hb
          have n0_ := Aside0.mk (blk_below (g := gb188) (o := .cells #[.int .i64 (wrap64 (1 + (wrap64 (a0)))), .int .i64 (wrap64 (1 + (wrap64 (a1))))] 34 (0, 0)) (by (with_reducible repeat (first | refine blk_drewN ?_ _ | refine blk_drew ?_ | refine blk_alloc ?_ _)); exact BK188.out) hb)
          have n1_ := Aside0.mk (below_step (by repeat (first | (with_reducible first | exact HB.out | apply below_alloc | apply pw_below_drewN | apply below_drew1 | refine below_set ?_ GE188.out) | exact HB.out)) hb)
          have n2_ := Aside0.mk (hbox)
          have n3_ := Aside0.mk ((by rw [hg]; exact (below_size (by repeat (first | (with_reducible first | exact HB.out | apply below_alloc | apply pw_below_drewN | apply below_drew1 | refine below_set ?_ GE188.out) | exact HB.out))) : w.heap.size ≤ gb194))
          have n4_ := Aside0.mk ((by rw [hg]; exact (below_size (by repeat (first | (with_reducible first | exact HB.out | apply below_alloc | apply pw_below_drewN | apply below_drew1 | refine below_set ?_ GE188.out) | exact HB.out))) : w.heap.size ≤ gb194))
          have n5_ := Aside0.mk ((by rw [hg]; exact Nat.ne_of_lt (blk_lt (g := gb188) (o := .cells #[.int .i64 (wrap64 (1 + (wrap64 (a0)))), .int .i64 (wrap64 (1 + (wrap64 (a1))))] 34 (0, 0)) (by (with_reducible repeat (first | refine blk_drewN ?_ _ | refine blk_drew ?_ | refine blk_alloc ?_ _)); exact BK188.out)) : gb188 ≠ gb194))
          have n6_ := Aside0.mk ((by rw [hg]; exact Nat.ne_of_gt (blk_lt (g := gb188) (o := .cells #[.int .i64 (wrap64 (1 + (wrap64 (a0)))), .int .i64 (wrap64 (1 + (wrap64 (a1))))] 34 (0, 0)) (by (with_reducible repeat (first | refine blk_drewN ?_ _ | refine blk_drew ?_ | refine blk_alloc ?_ _)); exact BK188.out)) : gb194 ≠ gb188))
          clear BK188
          clear HB
          have BK188 := n0_
          have HB := n1_
          have BK194 := n2_
          have GW194 := n3_
          have GE194 := n4_
          have NB188_194 := n5_
          have NB194_188 := n6_
          clear n0_ n1_ n2_ n3_ n4_ n5_ n6_
          clear hb hbox hg
          refine hK.out _ _ ⟨(blk_cell BK188.out 0).trans rfl, (blk_cell BK188.out 1).trans rfl⟩ (fun hHeld => ?_)
          clear hK K
          refine norm_ (a' := ?_) ?_ ?_
          rotate_left
          · show Act.put _ (some 8) _ = _
            simp only [Act.put, List.setIfInBounds_toArray, List.set_cons_zero, List.set_cons_succ, i64_w, i32_w]
            rfl
          exact norm_ (by simp only [putAll, Act.put, List.setIfInBounds_toArray, List.set_cons_zero, List.set_cons_succ]) (hCont (gb194) _ ⟨hHeld, (by (with_reducible repeat (first | refine blk_drewN ?_ _ | refine blk_drew ?_ | refine blk_alloc ?_ _)); exact BK188.out), (by (with_reducible repeat (first | refine blk_drewN ?_ _ | refine blk_drew ?_ | refine blk_alloc ?_ _)); exact BK194.out), GW194.out, GE194.out, NB188_194.out, NB194_188.out, (by repeat (first | (with_reducible first | exact HB.out | apply below_alloc | apply pw_below_drewN | apply below_drew1 | refine below_set ?_ GE188.out | refine below_set ?_ GE194.out) | exact HB.out))⟩)
        · skip
          refine box_step ?hg (N := 8) ?hd (cs := #[.int .i64 0, .int .i64 0]) (t := 30) ?hr ?_; (case hd => rfl); (case hg => rfl); (case hr => first | (go_simp; done) | (go_simp; rfl))
          intro gb194 hg w16 hbox hb
          have n0_ := Aside0.mk (blk_below (g := gb188) (o := .cells #[.int .i64 (wrap64 (1 + (wrap64 (a0)))), .int .i64 (wrap64 (1 + (wrap64 (a1))))] 34 (0, 0)) (by (with_reducible repeat (first | refine blk_drewN ?_ _ | refine blk_drew ?_ | refine blk_alloc ?_ _)); exact BK188.out) hb)
          have n1_ := Aside0.mk (below_step (by repeat (first | (with_reducible first | exact HB.out | apply below_alloc | apply pw_below_drewN | apply below_drew1 | refine below_set ?_ GE188.out) | exact HB.out)) hb)
          have n2_ := Aside0.mk (hbox)
          have n3_ := Aside0.mk ((by rw [hg]; exact (below_size (by repeat (first | (with_reducible first | exact HB.out | apply below_alloc | apply pw_below_drewN | apply below_drew1 | refine below_set ?_ GE188.out) | exact HB.out))) : w.heap.size ≤ gb194))
          have n4_ := Aside0.mk ((by rw [hg]; exact (below_size (by repeat (first | (with_reducible first | exact HB.out | apply below_alloc | apply pw_below_drewN | apply below_drew1 | refine below_set ?_ GE188.out) | exact HB.out))) : w.heap.size ≤ gb194))
          have n5_ := Aside0.mk ((by rw [hg]; exact Nat.ne_of_lt (blk_lt (g := gb188) (o := .cells #[.int .i64 (wrap64 (1 + (wrap64 (a0)))), .int .i64 (wrap64 (1 + (wrap64 (a1))))] 34 (0, 0)) (by (with_reducible repeat (first | refine blk_drewN ?_ _ | refine blk_drew ?_ | refine blk_alloc ?_ _)); exact BK188.out)) : gb188 ≠ gb194))
          have n6_ := Aside0.mk ((by rw [hg]; exact Nat.ne_of_gt (blk_lt (g := gb188) (o := .cells #[.int .i64 (wrap64 (1 + (wrap64 (a0)))), .int .i64 (wrap64 (1 + (wrap64 (a1))))] 34 (0, 0)) (by (with_reducible repeat (first | refine blk_drewN ?_ _ | refine blk_drew ?_ | refine blk_alloc ?_ _)); exact BK188.out)) : gb194 ≠ gb188))
          clear BK188
          clear HB
          have BK188 := n0_
          have HB := n1_
          have BK194 := n2_
          have GW194 := n3_
          have GE194 := n4_
          have NB188_194 := n5_
          have NB194_188 := n6_
          clear n0_ n1_ n2_ n3_ n4_ n5_ n6_
          clear hb hbox hg
          refine hK.out _ _ ⟨(blk_cell BK188.out 0).trans rfl, (blk_cell BK188.out 1).trans rfl⟩ (fun hHeld => ?_)
          clear hK K
          refine norm_ (a' := ?_) ?_ ?_
          rotate_left
          · show Act.put _ (some 8) _ = _
            simp only [Act.put, List.setIfInBounds_toArray, List.set_cons_zero, List.set_cons_succ, i64_w, i32_w]
            rfl
          refine one_ (i := 2) (N := some 26) #[true, true, true, false, false, false, true, false, false] rfl rfl (one_of HT_.out (by kernel_rfl)) (by decide) (fun K hK => ?_)
          refine goes_ Try.func22 (by kernel_rfl) rfl #[.agg #[.int .i64 t189, .int .i64 t190], .agg #[.int .i64 (wrap64 (1 + (wrap64 (a0)))), .int .i64 (wrap64 (1 + (wrap64 (a1))))]] (by rfl) rfl rfl (by (try simp only [List.map_toArray, List.map_cons, List.map_nil]); first | done | rfl | (simp only [List.length_drop, List.length_take]; rfl)) ?_
          with_reducible refine (stages_Change.calls k t189 t190 (wrap64 (1 + (wrap64 (a0)))) (wrap64 (1 + (wrap64 (a1)))) t191 t192 t193 _ A7.out).mono ?_
          rintro e w17 ⟨rfl, hb⟩
          refine ⟨_, rfl, ?_⟩
          have n0_ := Aside0.mk (blk_below (g := gb188) (o := .cells #[.int .i64 (wrap64 (1 + (wrap64 (a0)))), .int .i64 (wrap64 (1 + (wrap64 (a1))))] 34 (0, 0)) (by (with_reducible repeat (first | refine blk_drewN ?_ _ | refine blk_drew ?_ | refine blk_alloc ?_ _)); exact BK188.out) hb)
          have n1_ := Aside0.mk (blk_below (g := gb194) (o := .cells #[.int .i64 0, .int .i64 0] 30 (0, 0)) (by (with_reducible repeat (first | refine blk_drewN ?_ _ | refine blk_drew ?_ | refine blk_alloc ?_ _)); exact BK194.out) hb)
          have n2_ := Aside0.mk (below_step (by repeat (first | (with_reducible first | exact HB.out | apply below_alloc | apply pw_below_drewN | apply below_drew1 | refine below_set ?_ GE188.out | refine below_set ?_ GE194.out) | exact HB.out)) hb)
          clear BK188
          clear BK194
          clear HB
          have BK188 := n0_
          have BK194 := n1_
          have HB := n2_
          clear n0_ n1_ n2_
          (try clear hb)
          (try clear hb2)
          (try clear hk)
          (try clear hi)
          refine hK.out _ _ ⟨(blk_cell BK188.out 0).trans rfl, (blk_cell BK188.out 1).trans rfl⟩ (fun hHeld => ?_)
          clear hK K
          refine norm_ (a' := ?_) ?_ ?_
          rotate_left
          · show Act.put _ (some 26) _ = _
            simp only [Act.put, List.setIfInBounds_toArray, List.set_cons_zero, List.set_cons_succ, i64_w, i32_w]
            rfl
          refine pure_ (i := 3) (N := some 23) (v := ?_) (a' := ?_) #[true, true, true, true, false, false, true, false, false] rfl rfl (any_of HT_.out (by kernel_rfl)) (fun _ _ _ h => h) (Or.inl ⟨by rfl, ?_⟩) ?_ ?_
          rotate_left
          · intro w'
            go_simp
            with_reducible rfl
          rotate_left
          · simp only [Act.put, List.setIfInBounds_toArray, List.set_cons_zero, List.set_cons_succ, i64_w, i32_w]
            rfl
          refine pure_ (i := 4) (N := some 27) (v := ?_) (a' := ?_) #[true, true, true, true, true, false, true, false, false] rfl rfl (any_of HT_.out (by kernel_rfl)) (fun _ _ _ h => h) (Or.inl ⟨by rfl, ?_⟩) ?_ ?_
          rotate_left
          · intro w'
            go_simp
            with_reducible rfl
          rotate_left
          · simp only [Act.put, List.setIfInBounds_toArray, List.set_cons_zero, List.set_cons_succ, i64_w, i32_w]
            rfl
          refine pure_ (i := 5) (N := some 28) (v := ?_) (a' := ?_) #[true, true, true, true, true, true, true, false, false] rfl rfl (any_of HT_.out (by kernel_rfl)) (fun _ _ _ h => h) (Or.inl ⟨by rfl, ?_⟩) ?_ ?_
          rotate_left
          · intro w'
            go_simp
            with_reducible rfl
          rotate_left
          · simp only [Act.put, List.setIfInBounds_toArray, List.set_cons_zero, List.set_cons_succ, i64_w, i32_w]
            rfl
          exact norm_ (by simp only [putAll, Act.put, List.setIfInBounds_toArray, List.set_cons_zero, List.set_cons_succ]) (hCont (gb194) _ ⟨hHeld, (by (with_reducible repeat (first | refine blk_drewN ?_ _ | refine blk_drew ?_ | refine blk_alloc ?_ _)); exact BK188.out), (by (with_reducible repeat (first | refine blk_drewN ?_ _ | refine blk_drew ?_ | refine blk_alloc ?_ _)); exact BK194.out), GW194.out, GE194.out, NB188_194.out, NB194_188.out, (by repeat (first | (with_reducible first | exact HB.out | apply below_alloc | apply pw_below_drewN | apply below_drew1 | refine below_set ?_ GE188.out | refine below_set ?_ GE194.out) | exact HB.out))⟩)
      · skip
        refine box_step ?hg (N := 8) ?hd (cs := #[.int .i64 0, .int .i64 0]) (t := 30) ?hr ?_; (case hd => rfl); (case hg => rfl); (case hr => first | (go_simp; done) | (go_simp; rfl))
        intro gb194 hg w15 hbox hb
        have n0_ := Aside0.mk (blk_below (g := gb188) (o := .cells #[.int .i64 (wrap64 (1 + (wrap64 (a0)))), .int .i64 (wrap64 (1 + (wrap64 (a1))))] 34 (0, 0)) (by (with_reducible repeat (first | refine blk_drewN ?_ _ | refine blk_drew ?_ | refine blk_alloc ?_ _)); exact BK188.out) hb)
        have n1_ := Aside0.mk (below_step (by repeat (first | (with_reducible first | exact HB.out | apply below_alloc | apply pw_below_drewN | apply below_drew1 | refine below_set ?_ GE188.out) | exact HB.out)) hb)
        have n2_ := Aside0.mk (hbox)
        have n3_ := Aside0.mk ((by rw [hg]; exact (below_size (by repeat (first | (with_reducible first | exact HB.out | apply below_alloc | apply pw_below_drewN | apply below_drew1 | refine below_set ?_ GE188.out) | exact HB.out))) : w.heap.size ≤ gb194))
        have n4_ := Aside0.mk ((by rw [hg]; exact (below_size (by repeat (first | (with_reducible first | exact HB.out | apply below_alloc | apply pw_below_drewN | apply below_drew1 | refine below_set ?_ GE188.out) | exact HB.out))) : w.heap.size ≤ gb194))
        have n5_ := Aside0.mk ((by rw [hg]; exact Nat.ne_of_lt (blk_lt (g := gb188) (o := .cells #[.int .i64 (wrap64 (1 + (wrap64 (a0)))), .int .i64 (wrap64 (1 + (wrap64 (a1))))] 34 (0, 0)) (by (with_reducible repeat (first | refine blk_drewN ?_ _ | refine blk_drew ?_ | refine blk_alloc ?_ _)); exact BK188.out)) : gb188 ≠ gb194))
        have n6_ := Aside0.mk ((by rw [hg]; exact Nat.ne_of_gt (blk_lt (g := gb188) (o := .cells #[.int .i64 (wrap64 (1 + (wrap64 (a0)))), .int .i64 (wrap64 (1 + (wrap64 (a1))))] 34 (0, 0)) (by (with_reducible repeat (first | refine blk_drewN ?_ _ | refine blk_drew ?_ | refine blk_alloc ?_ _)); exact BK188.out)) : gb194 ≠ gb188))
        clear BK188
        clear HB
        have BK188 := n0_
        have HB := n1_
        have BK194 := n2_
        have GW194 := n3_
        have GE194 := n4_
        have NB188_194 := n5_
        have NB194_188 := n6_
        clear n0_ n1_ n2_ n3_ n4_ n5_ n6_
        clear hb hbox hg
        refine hK.out _ _ ⟨(blk_cell BK188.out 0).trans rfl, (blk_cell BK188.out 1).trans rfl⟩ (fun hHeld => ?_)
        clear hK K
        refine norm_ (a' := ?_) ?_ ?_
        rotate_left
        · show Act.put _ (some 8) _ = _
          simp only [Act.put, List.setIfInBounds_toArray, List.set_cons_zero, List.set_cons_succ, i64_w, i32_w]
          rfl
        refine one_ (i := 0) (N := some 24) #[true, true, false, false, false, false, true, false, false] rfl rfl (one_of HT_.out (by kernel_rfl)) (by decide) (fun K hK => ?_)
        refine goes_ Try.func23 (by kernel_rfl) rfl #[] (by rfl) rfl rfl (by (try simp only [List.map_toArray, List.map_cons, List.map_nil]); first | done | rfl | (simp only [List.length_drop, List.length_take]; rfl)) ?_
        with_reducible refine (stages_Start.calls  t189 t190 _ A6.out).mono ?_
        rintro e w16 ⟨rfl, hb⟩
        refine ⟨_, rfl, ?_⟩
        have n0_ := Aside0.mk (blk_below (g := gb188) (o := .cells #[.int .i64 (wrap64 (1 + (wrap64 (a0)))), .int .i64 (wrap64 (1 + (wrap64 (a1))))] 34 (0, 0)) (by (with_reducible repeat (first | refine blk_drewN ?_ _ | refine blk_drew ?_ | refine blk_alloc ?_ _)); exact BK188.out) hb)
        have n1_ := Aside0.mk (blk_below (g := gb194) (o := .cells #[.int .i64 0, .int .i64 0] 30 (0, 0)) (by (with_reducible repeat (first | refine blk_drewN ?_ _ | refine blk_drew ?_ | refine blk_alloc ?_ _)); exact BK194.out) hb)
        have n2_ := Aside0.mk (below_step (by repeat (first | (with_reducible first | exact HB.out | apply below_alloc | apply pw_below_drewN | apply below_drew1 | refine below_set ?_ GE188.out | refine below_set ?_ GE194.out) | exact HB.out)) hb)
        clear BK188
        clear BK194
        clear HB
        have BK188 := n0_
        have BK194 := n1_
        have HB := n2_
        clear n0_ n1_ n2_
        (try clear hb)
        (try clear hb2)
        (try clear hk)
        (try clear hi)
        refine hK.out _ _ ⟨(blk_cell BK188.out 0).trans rfl, (blk_cell BK188.out 1).trans rfl⟩ (fun hHeld => ?_)
        clear hK K
        refine norm_ (a' := ?_) ?_ ?_
        rotate_left
        · show Act.put _ (some 24) _ = _
          simp only [Act.put, List.setIfInBounds_toArray, List.set_cons_zero, List.set_cons_succ, i64_w, i32_w]
          rfl
        refine one_ (i := 2) (N := some 26) #[true, true, true, false, false, false, true, false, false] rfl rfl (one_of HT_.out (by kernel_rfl)) (by decide) (fun K hK => ?_)
        refine goes_ Try.func22 (by kernel_rfl) rfl #[.agg #[.int .i64 t189, .int .i64 t190], .agg #[.int .i64 (wrap64 (1 + (wrap64 (a0)))), .int .i64 (wrap64 (1 + (wrap64 (a1))))]] (by rfl) rfl rfl (by (try simp only [List.map_toArray, List.map_cons, List.map_nil]); first | done | rfl | (simp only [List.length_drop, List.length_take]; rfl)) ?_
        with_reducible refine (stages_Change.calls k t189 t190 (wrap64 (1 + (wrap64 (a0)))) (wrap64 (1 + (wrap64 (a1)))) t191 t192 t193 _ A7.out).mono ?_
        rintro e w17 ⟨rfl, hb⟩
        refine ⟨_, rfl, ?_⟩
        have n0_ := Aside0.mk (blk_below (g := gb188) (o := .cells #[.int .i64 (wrap64 (1 + (wrap64 (a0)))), .int .i64 (wrap64 (1 + (wrap64 (a1))))] 34 (0, 0)) (by (with_reducible repeat (first | refine blk_drewN ?_ _ | refine blk_drew ?_ | refine blk_alloc ?_ _)); exact BK188.out) hb)
        have n1_ := Aside0.mk (blk_below (g := gb194) (o := .cells #[.int .i64 0, .int .i64 0] 30 (0, 0)) (by (with_reducible repeat (first | refine blk_drewN ?_ _ | refine blk_drew ?_ | refine blk_alloc ?_ _)); exact BK194.out) hb)
        have n2_ := Aside0.mk (below_step (by repeat (first | (with_reducible first | exact HB.out | apply below_alloc | apply pw_below_drewN | apply below_drew1 | refine below_set ?_ GE188.out | refine below_set ?_ GE194.out) | exact HB.out)) hb)
        clear BK188
        clear BK194
        clear HB
        have BK188 := n0_
        have BK194 := n1_
        have HB := n2_
        clear n0_ n1_ n2_
        (try clear hb)
        (try clear hb2)
        (try clear hk)
        (try clear hi)
        refine hK.out _ _ ⟨(blk_cell BK188.out 0).trans rfl, (blk_cell BK188.out 1).trans rfl⟩ (fun hHeld => ?_)
        clear hK K
        refine norm_ (a' := ?_) ?_ ?_
        rotate_left
        · show Act.put _ (some 26) _ = _
          simp only [Act.put, List.setIfInBounds_toArray, List.set_cons_zero, List.set_cons_succ, i64_w, i32_w]
          rfl
        refine pure_ (i := 3) (N := some 23) (v := ?_) (a' := ?_) #[true, true, true, true, false, false, true, false, false] rfl rfl (any_of HT_.out (by kernel_rfl)) (fun _ _ _ h => h) (Or.inl ⟨by rfl, ?_⟩) ?_ ?_
        rotate_left
        · intro w'
          go_simp
          with_reducible rfl
        rotate_left
        · simp only [Act.put, List.setIfInBounds_toArray, List.set_cons_zero, List.set_cons_succ, i64_w, i32_w]
          rfl
        refine pure_ (i := 4) (N := some 27) (v := ?_) (a' := ?_) #[true, true, true, true, true, false, true, false, false] rfl rfl (any_of HT_.out (by kernel_rfl)) (fun _ _ _ h => h) (Or.inl ⟨by rfl, ?_⟩) ?_ ?_
        rotate_left
        · intro w'
          go_simp
          with_reducible rfl
        rotate_left
        · simp only [Act.put, List.setIfInBounds_toArray, List.set_cons_zero, List.set_cons_succ, i64_w, i32_w]
          rfl
        refine pure_ (i := 5) (N := some 28) (v := ?_) (a' := ?_) #[true, true, true, true, true, true, true, false, false] rfl rfl (any_of HT_.out (by kernel_rfl)) (fun _ _ _ h => h) (Or.inl ⟨by rfl, ?_⟩) ?_ ?_
        rotate_left
        · intro w'
          go_simp
          with_reducible rfl
        rotate_left
        · simp only [Act.put, List.setIfInBounds_toArray, List.set_cons_zero, List.set_cons_succ, i64_w, i32_w]
          rfl
        exact norm_ (by simp only [putAll, Act.put, List.setIfInBounds_toArray, List.set_cons_zero, List.set_cons_succ]) (hCont (gb194) _ ⟨hHeld, (by (with_reducible repeat (first | refine blk_drewN ?_ _ | refine blk_drew ?_ | refine blk_alloc ?_ _)); exact BK188.out), (by (with_reducible repeat (first | refine blk_drewN ?_ _ | refine blk_drew ?_ | refine blk_alloc ?_ _)); exact BK194.out), GW194.out, GE194.out, NB188_194.out, NB194_188.out, (by repeat (first | (with_reducible first | exact HB.out | apply below_alloc | apply pw_below_drewN | apply below_drew1 | refine below_set ?_ GE188.out | refine below_set ?_ GE194.out) | exact HB.out))⟩)
    rintro gb194 w18 ⟨hS_, h0_, h1_, h2_, h3_, h4_, h5_, h6_⟩
    have n0_ : Aside0 (w18.heap[gb188]? = some (.cells #[.int .i64 (wrap64 (1 + (wrap64 (a0)))), .int .i64 (wrap64 (1 + (wrap64 (a1))))] 34 (0, 0))) := ⟨h0_⟩
    have n1_ : Aside0 (w18.heap[gb194]? = some (.cells #[.int .i64 0, .int .i64 0] 30 (0, 0))) := ⟨h1_⟩
    have n2_ : Aside0 (w.heap.size ≤ gb194) := ⟨h2_⟩
    have n3_ : Aside0 (w.heap.size ≤ gb194) := ⟨h3_⟩
    have n4_ : Aside0 (gb188 ≠ gb194) := ⟨h4_⟩
    have n5_ : Aside0 (gb194 ≠ gb188) := ⟨h5_⟩
    have n6_ : Aside0 (Below w.heap.size w w18) := ⟨h6_⟩
    clear BK188
    clear HB
    clear h0_ h1_ h2_ h3_ h4_ h5_ h6_
    have BK188 := n0_
    have BK194 := n1_
    have GW194 := n2_
    have GE194 := n3_
    have NB188_194 := n4_
    have NB194_188 := n5_
    have HB := n6_
    clear n0_ n1_ n2_ n3_ n4_ n5_ n6_
    have hHeld : w18.cell? ⟨gb188, 0, none⟩ = some (.int .i64 (wrap64 (1 + (wrap64 (a0))))) ∧ w18.cell? ⟨gb188, 1, none⟩ = some (.int .i64 (wrap64 (1 + (wrap64 (a1))))) := hS_
    refine norm_ (a' := ?_) ?_ ?_
    rotate_left
    · simp only [putAll, Act.put, List.setIfInBounds_toArray, List.set_cons_zero, List.set_cons_succ]
      rfl
    refine one_ (i := 7) (N := none) #[true, true, true, true, true, true, true, true, false] rfl rfl (one_of HT_.out (by kernel_rfl)) (by decide) (fun K hK => ?_)
    have hs19 : w18.cell? ⟨gb194, 0, none⟩ = some (.int .i64 0) := (blk_cell BK194.out 0).trans rfl
    have hfs19 := blk_frozen BK194.out 0
    have hns19_0 := NB188_194.out
    have hms19_0 := NB194_188.out
    have hs20 : w18.cell? ⟨gb194, 1, none⟩ = some (.int .i64 0) := (blk_cell BK194.out 1).trans rfl
    have hfs20 := blk_frozen BK194.out 1
    have hns20_0 := NB188_194.out
    have hms20_0 := NB194_188.out
    refine skip_ (w1 := ?_) (by rfl) rfl ?_ ?_
    rotate_left
    · go_simp
      rfl
    refine hK.out _ _ ⟨((cell_far (p := ⟨gb194, _, none⟩) NB188_194.out _).trans (((cell_far (p := ⟨gb194, _, none⟩) NB188_194.out _).trans (hHeld.1)))), ((cell_far (p := ⟨gb194, _, none⟩) NB188_194.out _).trans (((cell_far (p := ⟨gb194, _, none⟩) NB188_194.out _).trans (hHeld.2))))⟩ (fun hHeld => ?_)
    clear hK K
    refine pure_ (i := 8) (N := some 9) (v := ?_) (a' := ?_) #[true, true, true, true, true, true, true, true, true] rfl rfl (any_of HT_.out (by kernel_rfl)) (fun _ _ _ h => h) (Or.inl ⟨by rfl, ?_⟩) ?_ ?_
    rotate_left
    · intro w'
      go_simp
      with_reducible rfl
    rotate_left
    · simp only [Act.put, List.setIfInBounds_toArray, List.set_cons_zero, List.set_cons_succ, i64_w, i32_w]
      rfl
    refine done_ (done_of HT_.out (by kernel_rfl)) ?_
    have hnb21 := NB194_188.out
    have hnc21 := NB188_194.out
    have hcz22_0 : w18.cell? ⟨gb194, 0, none⟩ = some (.int .i64 0) := (blk_cell BK194.out 0).trans rfl
    have hcz22_1 : w18.cell? ⟨gb194, 1, none⟩ = some (.int .i64 0) := (blk_cell BK194.out 1).trans rfl
    have hfz22_0 := blk_frozen BK194.out 0
    have hfz22_1 := blk_frozen BK194.out 1
    have hcz23_0 : w18.cell? ⟨gb188, 0, none⟩ = some (.int .i64 (wrap64 (1 + (wrap64 (a0))))) := (blk_cell BK188.out 0).trans rfl
    have hcz23_1 : w18.cell? ⟨gb188, 1, none⟩ = some (.int .i64 (wrap64 (1 + (wrap64 (a1))))) := (blk_cell BK188.out 1).trans rfl
    have hfz23_0 := blk_frozen BK188.out 0
    have hfz23_1 := blk_frozen BK188.out 1
    go_upto_region 6 with (first | ((with_reducible refine gate_callee (f := 18) rfl ?_); refine goesL_ (some 34) rfl rfl Try.func18 (by kernel_rfl) rfl #[.agg #[.int .i64 t191, .int .i64 t192], .agg #[.int .i64 (wrap64 (1 + (wrap64 (a0)))), .int .i64 (wrap64 (1 + (wrap64 (a1))))], .int .i64 (wrap64 (a2))] rfl (by (try simp only [List.map_toArray, List.map_cons, List.map_nil]); first | done | rfl | (simp only [List.length_drop, List.length_take]; rfl)) ?_; (with_reducible refine (stages_Tick.calls k t191 t192 (wrap64 (1 + (wrap64 (a0)))) (wrap64 (1 + (wrap64 (a1)))) (wrap64 (a2)) t195 t196 t197 t200 _ A8.out).mono ?_); rintro e w24 ⟨v198, rfl, ho0, hb⟩; refine ⟨_, rfl, ?_⟩; have n0_ := Aside0.mk (Kd.R_lower ho0 (below_size (by repeat (first | (with_reducible first | exact HB.out | apply below_alloc | apply pw_below_drewN | apply below_drew1 | refine below_set ?_ GE188.out | refine below_set ?_ GE194.out) | exact HB.out)))); have n1_ := Aside0.mk (blk_below (g := gb188) (o := .cells #[.int .i64 (wrap64 (1 + (wrap64 (a0)))), .int .i64 (wrap64 (1 + (wrap64 (a1))))] 34 (0, 0)) (by (with_reducible repeat (first | refine blk_drewN ?_ _ | refine blk_drew ?_ | refine blk_alloc ?_ _)); refine blk_far ?_ NB188_194.out _; (with_reducible repeat (first | refine blk_drewN ?_ _ | refine blk_drew ?_ | refine blk_alloc ?_ _)); refine blk_far ?_ NB188_194.out _; (with_reducible repeat (first | refine blk_drewN ?_ _ | refine blk_drew ?_ | refine blk_alloc ?_ _)); exact BK188.out) hb); have n2_ := Aside0.mk (blk_below (g := gb194) (o := .cells #[.int .i64 t191, .int .i64 t192] 30 (0, 0)) (by (with_reducible repeat (first | refine blk_drewN ?_ _ | refine blk_drew ?_ | refine blk_alloc ?_ _)); refine blk_put (cs := #[.int .i64 t191, .int .i64 0]) ?_ 1 _ rfl; (with_reducible repeat (first | refine blk_drewN ?_ _ | refine blk_drew ?_ | refine blk_alloc ?_ _)); refine blk_put (cs := #[.int .i64 0, .int .i64 0]) ?_ 0 _ rfl; (with_reducible repeat (first | refine blk_drewN ?_ _ | refine blk_drew ?_ | refine blk_alloc ?_ _)); exact BK194.out) hb); have n3_ := Aside0.mk (below_step (by repeat (first | (with_reducible first | exact HB.out | apply below_alloc | apply pw_below_drewN | apply below_drew1 | refine below_set ?_ GE188.out | refine below_set ?_ GE194.out) | exact HB.out)) hb); clear BK188; clear BK194; clear HB; have HO199 := n0_; have BK188 := n1_; have BK194 := n2_; have HB := n3_; clear n0_ n1_ n2_ n3_; (try clear hb); (try clear hb2); (try clear hk); (try clear hi); (try clear ho0)) | ((with_reducible refine gate_dst (N := 10) rfl ?_); (try (refine gate_guard (by rfl) ?_; dsimp only)); refine box_event ?hg (N := 10) ?hd (cs := #[.int .i64 0, .int .i64 0]) (t := 30) ?hr ?_; (case hd => rfl); (case hg => rfl); (case hr => first | (go_simp; done) | (go_simp; rfl)); intro gb201 hg w25 hbox hb; have n0_ := Aside0.mk (Kd.R_below (by (with_reducible repeat (first | apply Kd.R_alloc | apply Kd.R_drewN | apply Kd.R_drew)); exact HO199.out) hb); have n1_ := Aside0.mk (blk_below (g := gb188) (o := .cells #[.int .i64 (wrap64 (1 + (wrap64 (a0)))), .int .i64 (wrap64 (1 + (wrap64 (a1))))] 34 (0, 0)) (by (with_reducible repeat (first | refine blk_drewN ?_ _ | refine blk_drew ?_ | refine blk_alloc ?_ _)); exact BK188.out) hb); have n2_ := Aside0.mk (blk_below (g := gb194) (o := .cells #[.int .i64 t191, .int .i64 t192] 30 (0, 0)) (by (with_reducible repeat (first | refine blk_drewN ?_ _ | refine blk_drew ?_ | refine blk_alloc ?_ _)); exact BK194.out) hb); have n3_ := Aside0.mk (below_step (by repeat (first | (with_reducible first | exact HB.out | apply below_alloc | apply pw_below_drewN | apply below_drew1 | refine below_set ?_ GE188.out | refine below_set ?_ GE194.out) | exact HB.out)) hb); have n4_ := Aside0.mk (hbox); have n5_ := Aside0.mk ((by rw [hg]; exact (below_size (by repeat (first | (with_reducible first | exact HB.out | apply below_alloc | apply pw_below_drewN | apply below_drew1 | refine below_set ?_ GE188.out | refine below_set ?_ GE194.out) | exact HB.out))) : w.heap.size ≤ gb201)); have n6_ := Aside0.mk ((by rw [hg]; exact (below_size (by repeat (first | (with_reducible first | exact HB.out | apply below_alloc | apply pw_below_drewN | apply below_drew1 | refine below_set ?_ GE188.out | refine below_set ?_ GE194.out) | exact HB.out))) : w.heap.size ≤ gb201)); have n7_ := Aside0.mk ((by rw [hg]; exact Nat.ne_of_lt (blk_lt (g := gb188) (o := .cells #[.int .i64 (wrap64 (1 + (wrap64 (a0)))), .int .i64 (wrap64 (1 + (wrap64 (a1))))] 34 (0, 0)) (by (with_reducible repeat (first | refine blk_drewN ?_ _ | refine blk_drew ?_ | refine blk_alloc ?_ _)); exact BK188.out)) : gb188 ≠ gb201)); have n8_ := Aside0.mk ((by rw [hg]; exact Nat.ne_of_gt (blk_lt (g := gb188) (o := .cells #[.int .i64 (wrap64 (1 + (wrap64 (a0)))), .int .i64 (wrap64 (1 + (wrap64 (a1))))] 34 (0, 0)) (by (with_reducible repeat (first | refine blk_drewN ?_ _ | refine blk_drew ?_ | refine blk_alloc ?_ _)); exact BK188.out)) : gb201 ≠ gb188)); have n9_ := Aside0.mk ((by rw [hg]; exact Nat.ne_of_lt (blk_lt (g := gb194) (o := .cells #[.int .i64 t191, .int .i64 t192] 30 (0, 0)) (by (with_reducible repeat (first | refine blk_drewN ?_ _ | refine blk_drew ?_ | refine blk_alloc ?_ _)); exact BK194.out)) : gb194 ≠ gb201)); have n10_ := Aside0.mk ((by rw [hg]; exact Nat.ne_of_gt (blk_lt (g := gb194) (o := .cells #[.int .i64 t191, .int .i64 t192] 30 (0, 0)) (by (with_reducible repeat (first | refine blk_drewN ?_ _ | refine blk_drew ?_ | refine blk_alloc ?_ _)); exact BK194.out)) : gb201 ≠ gb194)); clear HO199; clear BK188; clear BK194; clear HB; have HO199 := n0_; have BK188 := n1_; have BK194 := n2_; have HB := n3_; have BK201 := n4_; have GW201 := n5_; have GE201 := n6_; have NB188_201 := n7_; have NB201_188 := n8_; have NB194_201 := n9_; have NB201_194 := n10_; clear n0_ n1_ n2_ n3_ n4_ n5_ n6_ n7_ n8_ n9_ n10_; clear hb hbox hg; have hnb26 := NB201_188.out; have hnc26 := NB188_201.out; have hnb27 := NB201_194.out; have hnc27 := NB194_201.out; have hcz28_0 : w25.cell? ⟨gb201, 0, none⟩ = some (.int .i64 0) := (blk_cell BK201.out 0).trans rfl; have hcz28_1 : w25.cell? ⟨gb201, 1, none⟩ = some (.int .i64 0) := (blk_cell BK201.out 1).trans rfl; have hfz28_0 := blk_frozen BK201.out 0; have hfz28_1 := blk_frozen BK201.out 1))
    (try simp only [Act.put, List.setIfInBounds_toArray, List.set_cons_zero, List.set_cons_succ])
    go_cut [55] (fun v55 wc => ∃ (kq : Nat) (x55_8 : Bool), v55 = .bool x55_8 ∧ Aside0 (waypointlaw37_StagesOrder.j0 kq a2 t197 x55_8 (wrap64 (1 + (wrap64 (a0)))) (wrap64 (1 + (wrap64 (a1)))) t195 t196 = some r) ∧ Aside0 (kq ≤ k) ∧ Aside0 (Kd.R (Kd.int .i64) 3 wc w.heap.size (fun _ => True) v198 t197) ∧ Aside0 (wc.heap[gb188]? = some (.cells #[.int .i64 (wrap64 (1 + (wrap64 (a0)))), .int .i64 (wrap64 (1 + (wrap64 (a1))))] 34 (0, 0))) ∧ Aside0 (wc.heap[gb194]? = some (.cells #[.int .i64 t191, .int .i64 t192] 30 (0, 0))) ∧ Aside0 (wc.heap[gb201]? = some (.cells #[.int .i64 t195, .int .i64 t196] 30 (0, 0))) ∧ Aside0 (Below w.heap.size w wc))
    case first =>
      have H := HC9.out
      clear HC9
      by_cases c29 : t193 = 0
      · rw [if_pos c29] at H
        have c29b0 : (t193 == 0) = true := beq_iff_eq.mpr c29
        have c29b1 : (t193 != 0) = false := bne_eq_false_iff_eq.mpr c29
        clear c29
        (first | rw [c29b0] | (simp only [i64_w, i32_w]; rw [c29b0]) | skip)
        by_cases c30 : t200 = 0
        · rw [if_pos c30] at H
          have c30b0 : (t200 == 0) = true := beq_iff_eq.mpr c30
          have c30b1 : (t200 != 0) = false := bne_eq_false_iff_eq.mpr c30
          clear c30
          replace H := Option.bind_eq_some_iff.mp H
          obtain ⟨t202, A310, H⟩ := H
          replace H : (if t202 = true then ((stages_Valid.f k t195 t196 (wrap64 (1 + (wrap64 (a0)))) (wrap64 (1 + (wrap64 (a1))))).bind fun t203 => (waypointlaw37_StagesOrder.j0 k a2 t197 (!t203) (wrap64 (1 + (wrap64 (a0)))) (wrap64 (1 + (wrap64 (a1)))) t195 t196)) else (waypointlaw37_StagesOrder.j0 k a2 t197 true (wrap64 (1 + (wrap64 (a0)))) (wrap64 (1 + (wrap64 (a1)))) t195 t196)) = some r := H
          have A31 := Aside0.mk A310
          clear A310
          by_cases c32 : t202 = true
          · subst c32
            have H1 : ((stages_Valid.f k t195 t196 (wrap64 (1 + (wrap64 (a0)))) (wrap64 (1 + (wrap64 (a1))))).bind fun t203 => (waypointlaw37_StagesOrder.j0 k a2 t197 (!t203) (wrap64 (1 + (wrap64 (a0)))) (wrap64 (1 + (wrap64 (a1)))) t195 t196)) = some r := by rw [if_pos rfl] at H; exact H
            clear H
            have H := H1
            clear H1
            replace H := Option.bind_eq_some_iff.mp H
            obtain ⟨t203, A330, H⟩ := H
            replace H : (waypointlaw37_StagesOrder.j0 k a2 t197 (!t203) (wrap64 (1 + (wrap64 (a0)))) (wrap64 (1 + (wrap64 (a1)))) t195 t196) = some r := H
            have A33 := Aside0.mk A330
            clear A330
            have H' := Aside0.mk H
            clear H
            have hnb34 := NB194_188.out
            have hnc34 := NB188_194.out
            have hnb35 := NB194_201.out
            have hnc35 := NB201_194.out
            have hcz36_0 : w25.cell? ⟨gb194, 0, none⟩ = some (.int .i64 t191) := (blk_cell BK194.out 0).trans rfl
            have hcz36_1 : w25.cell? ⟨gb194, 1, none⟩ = some (.int .i64 t192) := (blk_cell BK194.out 1).trans rfl
            have hfz36_0 := blk_frozen BK194.out 0
            have hfz36_1 := blk_frozen BK194.out 1
            have hnb37 := NB188_201.out
            have hnc37 := NB201_188.out
            have hcz38_0 : w25.cell? ⟨gb188, 0, none⟩ = some (.int .i64 (wrap64 (1 + (wrap64 (a0))))) := (blk_cell BK188.out 0).trans rfl
            have hcz38_1 : w25.cell? ⟨gb188, 1, none⟩ = some (.int .i64 (wrap64 (1 + (wrap64 (a1))))) := (blk_cell BK188.out 1).trans rfl
            have hfz38_0 := blk_frozen BK188.out 0
            have hfz38_1 := blk_frozen BK188.out 1
            go_wp2_with (first | (go_at_call 24; (with_reducible refine (stages_Valid.calls k t191 t192 (wrap64 (1 + (wrap64 (a0)))) (wrap64 (1 + (wrap64 (a1)))) true _ A31.out).mono ?_); rintro e w39 ⟨rfl, hb⟩; have n0_ := Aside0.mk (Kd.R_below (by (with_reducible repeat (first | apply Kd.R_alloc | apply Kd.R_drewN | apply Kd.R_drew)); exact (Kd.R_mono (Kd.R_far (p := ⟨gb201, 1, none⟩) (Kd.R_far (p := ⟨gb201, 0, none⟩) (Kd.R_types HO199.out BK201.out (by decide)) (fun _ hk => hk.2) (.int .i64 t195)) (fun _ hk => hk.2) (.int .i64 t196)) (fun _ h_ => h_.1))) hb); have n1_ := Aside0.mk (blk_below (g := gb188) (o := .cells #[.int .i64 (wrap64 (1 + (wrap64 (a0)))), .int .i64 (wrap64 (1 + (wrap64 (a1))))] 34 (0, 0)) (by (with_reducible repeat (first | refine blk_drewN ?_ _ | refine blk_drew ?_ | refine blk_alloc ?_ _)); refine blk_far ?_ NB188_201.out _; (with_reducible repeat (first | refine blk_drewN ?_ _ | refine blk_drew ?_ | refine blk_alloc ?_ _)); refine blk_far ?_ NB188_201.out _; (with_reducible repeat (first | refine blk_drewN ?_ _ | refine blk_drew ?_ | refine blk_alloc ?_ _)); exact BK188.out) hb); have n2_ := Aside0.mk (blk_below (g := gb194) (o := .cells #[.int .i64 t191, .int .i64 t192] 30 (0, 0)) (by (with_reducible repeat (first | refine blk_drewN ?_ _ | refine blk_drew ?_ | refine blk_alloc ?_ _)); refine blk_far ?_ NB194_201.out _; (with_reducible repeat (first | refine blk_drewN ?_ _ | refine blk_drew ?_ | refine blk_alloc ?_ _)); refine blk_far ?_ NB194_201.out _; (with_reducible repeat (first | refine blk_drewN ?_ _ | refine blk_drew ?_ | refine blk_alloc ?_ _)); exact BK194.out) hb); have n3_ := Aside0.mk (blk_below (g := gb201) (o := .cells #[.int .i64 t195, .int .i64 t196] 30 (0, 0)) (by (with_reducible repeat (first | refine blk_drewN ?_ _ | refine blk_drew ?_ | refine blk_alloc ?_ _)); refine blk_put (cs := #[.int .i64 t195, .int .i64 0]) ?_ 1 _ rfl; (with_reducible repeat (first | refine blk_drewN ?_ _ | refine blk_drew ?_ | refine blk_alloc ?_ _)); refine blk_put (cs := #[.int .i64 0, .int .i64 0]) ?_ 0 _ rfl; (with_reducible repeat (first | refine blk_drewN ?_ _ | refine blk_drew ?_ | refine blk_alloc ?_ _)); exact BK201.out) hb); have n4_ := Aside0.mk (below_step (by repeat (first | (with_reducible first | exact HB.out | apply below_alloc | apply pw_below_drewN | apply below_drew1 | refine below_set ?_ GE188.out | refine below_set ?_ GE194.out | refine below_set ?_ GE201.out) | exact HB.out)) hb); clear HO199; clear BK188; clear BK194; clear BK201; clear HB; have HO199 := n0_; have BK188 := n1_; have BK194 := n2_; have BK201 := n3_; have HB := n4_; clear n0_ n1_ n2_ n3_ n4_; (try clear hb); (try clear hb2); (try clear hk); (try clear hi); have hcz40_0 : w39.cell? ⟨gb201, 0, none⟩ = some (.int .i64 t195) := (blk_cell BK201.out 0).trans rfl; have hcz40_1 : w39.cell? ⟨gb201, 1, none⟩ = some (.int .i64 t196) := (blk_cell BK201.out 1).trans rfl; have hfz40_0 := blk_frozen BK201.out 0; have hfz40_1 := blk_frozen BK201.out 1; have hcz41_0 : w39.cell? ⟨gb188, 0, none⟩ = some (.int .i64 (wrap64 (1 + (wrap64 (a0))))) := (blk_cell BK188.out 0).trans rfl; have hcz41_1 : w39.cell? ⟨gb188, 1, none⟩ = some (.int .i64 (wrap64 (1 + (wrap64 (a1))))) := (blk_cell BK188.out 1).trans rfl; have hfz41_0 := blk_frozen BK188.out 0; have hfz41_1 := blk_frozen BK188.out 1) | (go_at_call 24; (with_reducible refine (stages_Valid.calls k t195 t196 (wrap64 (1 + (wrap64 (a0)))) (wrap64 (1 + (wrap64 (a1)))) t203 _ A33.out).mono ?_); rintro e w42 ⟨rfl, hb⟩; have n0_ := Aside0.mk (Kd.R_below (by (with_reducible repeat (first | apply Kd.R_alloc | apply Kd.R_drewN | apply Kd.R_drew)); exact HO199.out) hb); have n1_ := Aside0.mk (blk_below (g := gb188) (o := .cells #[.int .i64 (wrap64 (1 + (wrap64 (a0)))), .int .i64 (wrap64 (1 + (wrap64 (a1))))] 34 (0, 0)) (by (with_reducible repeat (first | refine blk_drewN ?_ _ | refine blk_drew ?_ | refine blk_alloc ?_ _)); exact BK188.out) hb); have n2_ := Aside0.mk (blk_below (g := gb194) (o := .cells #[.int .i64 t191, .int .i64 t192] 30 (0, 0)) (by (with_reducible repeat (first | refine blk_drewN ?_ _ | refine blk_drew ?_ | refine blk_alloc ?_ _)); exact BK194.out) hb); have n3_ := Aside0.mk (blk_below (g := gb201) (o := .cells #[.int .i64 t195, .int .i64 t196] 30 (0, 0)) (by (with_reducible repeat (first | refine blk_drewN ?_ _ | refine blk_drew ?_ | refine blk_alloc ?_ _)); exact BK201.out) hb); have n4_ := Aside0.mk (below_step (by repeat (first | (with_reducible first | exact HB.out | apply below_alloc | apply pw_below_drewN | apply below_drew1 | refine below_set ?_ GE188.out | refine below_set ?_ GE194.out | refine below_set ?_ GE201.out) | exact HB.out)) hb); clear HO199; clear BK188; clear BK194; clear BK201; clear HB; have HO199 := n0_; have BK188 := n1_; have BK194 := n2_; have BK201 := n3_; have HB := n4_; clear n0_ n1_ n2_ n3_ n4_; (try clear hb); (try clear hb2); (try clear hk); (try clear hi)))
            go_meet
            case rel => exact ⟨_, (!t203), (by first | rfl | (simp; done) | (simp [*]; done)), H', ⟨by first | omega | exact Nat.le_refl _⟩, ⟨by (with_reducible repeat (first | apply Kd.R_alloc | apply Kd.R_drewN | apply Kd.R_drew)); exact HO199.out⟩, ⟨by (with_reducible repeat (first | refine blk_drewN ?_ _ | refine blk_drew ?_ | refine blk_alloc ?_ _)); exact BK188.out⟩, ⟨by (with_reducible repeat (first | refine blk_drewN ?_ _ | refine blk_drew ?_ | refine blk_alloc ?_ _)); exact BK194.out⟩, ⟨by (with_reducible repeat (first | refine blk_drewN ?_ _ | refine blk_drew ?_ | refine blk_alloc ?_ _)); exact BK201.out⟩, ⟨by repeat (first | (with_reducible first | exact HB.out | apply below_alloc | apply pw_below_drewN | apply below_drew1 | refine below_set ?_ GE188.out | refine below_set ?_ GE194.out | refine below_set ?_ GE201.out) | exact HB.out)⟩⟩
          · replace c32 := Bool.eq_false_iff.mpr c32
            subst c32
            have H1 : (waypointlaw37_StagesOrder.j0 k a2 t197 true (wrap64 (1 + (wrap64 (a0)))) (wrap64 (1 + (wrap64 (a1)))) t195 t196) = some r := by rw [if_neg (show ¬ (false = true) by decide)] at H; exact H
            clear H
            have H := H1
            clear H1
            have H' := Aside0.mk H
            clear H
            have hnb43 := NB194_188.out
            have hnc43 := NB188_194.out
            have hnb44 := NB194_201.out
            have hnc44 := NB201_194.out
            have hcz45_0 : w25.cell? ⟨gb194, 0, none⟩ = some (.int .i64 t191) := (blk_cell BK194.out 0).trans rfl
            have hcz45_1 : w25.cell? ⟨gb194, 1, none⟩ = some (.int .i64 t192) := (blk_cell BK194.out 1).trans rfl
            have hfz45_0 := blk_frozen BK194.out 0
            have hfz45_1 := blk_frozen BK194.out 1
            have hnb46 := NB188_201.out
            have hnc46 := NB201_188.out
            have hcz47_0 : w25.cell? ⟨gb188, 0, none⟩ = some (.int .i64 (wrap64 (1 + (wrap64 (a0))))) := (blk_cell BK188.out 0).trans rfl
            have hcz47_1 : w25.cell? ⟨gb188, 1, none⟩ = some (.int .i64 (wrap64 (1 + (wrap64 (a1))))) := (blk_cell BK188.out 1).trans rfl
            have hfz47_0 := blk_frozen BK188.out 0
            have hfz47_1 := blk_frozen BK188.out 1
            go_wp2_with (first | (go_at_call 24; (with_reducible refine (stages_Valid.calls k t191 t192 (wrap64 (1 + (wrap64 (a0)))) (wrap64 (1 + (wrap64 (a1)))) false _ A31.out).mono ?_); rintro e w48 ⟨rfl, hb⟩; have n0_ := Aside0.mk (Kd.R_below (by (with_reducible repeat (first | apply Kd.R_alloc | apply Kd.R_drewN | apply Kd.R_drew)); exact (Kd.R_mono (Kd.R_far (p := ⟨gb201, 1, none⟩) (Kd.R_far (p := ⟨gb201, 0, none⟩) (Kd.R_types HO199.out BK201.out (by decide)) (fun _ hk => hk.2) (.int .i64 t195)) (fun _ hk => hk.2) (.int .i64 t196)) (fun _ h_ => h_.1))) hb); have n1_ := Aside0.mk (blk_below (g := gb188) (o := .cells #[.int .i64 (wrap64 (1 + (wrap64 (a0)))), .int .i64 (wrap64 (1 + (wrap64 (a1))))] 34 (0, 0)) (by (with_reducible repeat (first | refine blk_drewN ?_ _ | refine blk_drew ?_ | refine blk_alloc ?_ _)); refine blk_far ?_ NB188_201.out _; (with_reducible repeat (first | refine blk_drewN ?_ _ | refine blk_drew ?_ | refine blk_alloc ?_ _)); refine blk_far ?_ NB188_201.out _; (with_reducible repeat (first | refine blk_drewN ?_ _ | refine blk_drew ?_ | refine blk_alloc ?_ _)); exact BK188.out) hb); have n2_ := Aside0.mk (blk_below (g := gb194) (o := .cells #[.int .i64 t191, .int .i64 t192] 30 (0, 0)) (by (with_reducible repeat (first | refine blk_drewN ?_ _ | refine blk_drew ?_ | refine blk_alloc ?_ _)); refine blk_far ?_ NB194_201.out _; (with_reducible repeat (first | refine blk_drewN ?_ _ | refine blk_drew ?_ | refine blk_alloc ?_ _)); refine blk_far ?_ NB194_201.out _; (with_reducible repeat (first | refine blk_drewN ?_ _ | refine blk_drew ?_ | refine blk_alloc ?_ _)); exact BK194.out) hb); have n3_ := Aside0.mk (blk_below (g := gb201) (o := .cells #[.int .i64 t195, .int .i64 t196] 30 (0, 0)) (by (with_reducible repeat (first | refine blk_drewN ?_ _ | refine blk_drew ?_ | refine blk_alloc ?_ _)); refine blk_put (cs := #[.int .i64 t195, .int .i64 0]) ?_ 1 _ rfl; (with_reducible repeat (first | refine blk_drewN ?_ _ | refine blk_drew ?_ | refine blk_alloc ?_ _)); refine blk_put (cs := #[.int .i64 0, .int .i64 0]) ?_ 0 _ rfl; (with_reducible repeat (first | refine blk_drewN ?_ _ | refine blk_drew ?_ | refine blk_alloc ?_ _)); exact BK201.out) hb); have n4_ := Aside0.mk (below_step (by repeat (first | (with_reducible first | exact HB.out | apply below_alloc | apply pw_below_drewN | apply below_drew1 | refine below_set ?_ GE188.out | refine below_set ?_ GE194.out | refine below_set ?_ GE201.out) | exact HB.out)) hb); clear HO199; clear BK188; clear BK194; clear BK201; clear HB; have HO199 := n0_; have BK188 := n1_; have BK194 := n2_; have BK201 := n3_; have HB := n4_; clear n0_ n1_ n2_ n3_ n4_; (try clear hb); (try clear hb2); (try clear hk); (try clear hi)))
            go_meet
            case rel => exact ⟨_, (true), (by first | rfl | (simp; done) | (simp [*]; done)), H', ⟨by first | omega | exact Nat.le_refl _⟩, ⟨by (with_reducible repeat (first | apply Kd.R_alloc | apply Kd.R_drewN | apply Kd.R_drew)); exact HO199.out⟩, ⟨by (with_reducible repeat (first | refine blk_drewN ?_ _ | refine blk_drew ?_ | refine blk_alloc ?_ _)); exact BK188.out⟩, ⟨by (with_reducible repeat (first | refine blk_drewN ?_ _ | refine blk_drew ?_ | refine blk_alloc ?_ _)); exact BK194.out⟩, ⟨by (with_reducible repeat (first | refine blk_drewN ?_ _ | refine blk_drew ?_ | refine blk_alloc ?_ _)); exact BK201.out⟩, ⟨by repeat (first | (with_reducible first | exact HB.out | apply below_alloc | apply pw_below_drewN | apply below_drew1 | refine below_set ?_ GE188.out | refine below_set ?_ GE194.out | refine below_set ?_ GE201.out) | exact HB.out)⟩⟩
        · rw [if_neg c30] at H
          have c30b0 : (t200 == 0) = false := beq_eq_false_iff_ne.mpr c30
          have c30b1 : (t200 != 0) = true := bne_iff_ne.mpr c30
          have H' := Aside0.mk H
          clear H
          go_wp2
          go_meet
          case rel => exact ⟨_, (true), (by first | rfl | (simp; done) | (simp [*]; done)), H', ⟨by first | omega | exact Nat.le_refl _⟩, ⟨by (with_reducible repeat (first | apply Kd.R_alloc | apply Kd.R_drewN | apply Kd.R_drew)); exact Kd.R_mono (Kd.R_far (p := ⟨gb201, 1, none⟩) (Kd.R_far (p := ⟨gb201, 0, none⟩) (Kd.R_types HO199.out BK201.out (by decide)) (fun _ hk => hk.2) (.int .i64 t195)) (fun _ hk => hk.2) (.int .i64 t196)) (fun _ hk => trivial)⟩, ⟨by (with_reducible repeat (first | refine blk_drewN ?_ _ | refine blk_drew ?_ | refine blk_alloc ?_ _)); refine blk_far ?_ NB188_201.out _; (with_reducible repeat (first | refine blk_drewN ?_ _ | refine blk_drew ?_ | refine blk_alloc ?_ _)); refine blk_far ?_ NB188_201.out _; (with_reducible repeat (first | refine blk_drewN ?_ _ | refine blk_drew ?_ | refine blk_alloc ?_ _)); exact BK188.out⟩, ⟨by (with_reducible repeat (first | refine blk_drewN ?_ _ | refine blk_drew ?_ | refine blk_alloc ?_ _)); refine blk_far ?_ NB194_201.out _; (with_reducible repeat (first | refine blk_drewN ?_ _ | refine blk_drew ?_ | refine blk_alloc ?_ _)); refine blk_far ?_ NB194_201.out _; (with_reducible repeat (first | refine blk_drewN ?_ _ | refine blk_drew ?_ | refine blk_alloc ?_ _)); exact BK194.out⟩, ⟨by (with_reducible repeat (first | refine blk_drewN ?_ _ | refine blk_drew ?_ | refine blk_alloc ?_ _)); refine blk_put (cs := #[.int .i64 t195, .int .i64 0]) ?_ 1 _ rfl; (with_reducible repeat (first | refine blk_drewN ?_ _ | refine blk_drew ?_ | refine blk_alloc ?_ _)); refine blk_put (cs := #[.int .i64 0, .int .i64 0]) ?_ 0 _ rfl; (with_reducible repeat (first | refine blk_drewN ?_ _ | refine blk_drew ?_ | refine blk_alloc ?_ _)); exact BK201.out⟩, ⟨by repeat (first | (with_reducible first | exact HB.out | apply below_alloc | apply pw_below_drewN | apply below_drew1 | refine below_set ?_ GE188.out | refine below_set ?_ GE194.out | refine below_set ?_ GE201.out) | exact HB.out)⟩⟩
      · rw [if_neg c29] at H
        have c29b0 : (t193 == 0) = false := beq_eq_false_iff_ne.mpr c29
        have c29b1 : (t193 != 0) = true := bne_iff_ne.mpr c29
        (first | rw [c29b0] | (simp only [i64_w, i32_w]; rw [c29b0]) | skip)
        have H' := Aside0.mk H
        clear H
        go_wp2
        go_meet
        case rel => exact ⟨_, (true), (by first | rfl | (simp; done) | (simp [*]; done)), H', ⟨by first | omega | exact Nat.le_refl _⟩, ⟨by (with_reducible repeat (first | apply Kd.R_alloc | apply Kd.R_drewN | apply Kd.R_drew)); exact Kd.R_mono (Kd.R_far (p := ⟨gb201, 1, none⟩) (Kd.R_far (p := ⟨gb201, 0, none⟩) (Kd.R_types HO199.out BK201.out (by decide)) (fun _ hk => hk.2) (.int .i64 t195)) (fun _ hk => hk.2) (.int .i64 t196)) (fun _ hk => trivial)⟩, ⟨by (with_reducible repeat (first | refine blk_drewN ?_ _ | refine blk_drew ?_ | refine blk_alloc ?_ _)); refine blk_far ?_ NB188_201.out _; (with_reducible repeat (first | refine blk_drewN ?_ _ | refine blk_drew ?_ | refine blk_alloc ?_ _)); refine blk_far ?_ NB188_201.out _; (with_reducible repeat (first | refine blk_drewN ?_ _ | refine blk_drew ?_ | refine blk_alloc ?_ _)); exact BK188.out⟩, ⟨by (with_reducible repeat (first | refine blk_drewN ?_ _ | refine blk_drew ?_ | refine blk_alloc ?_ _)); refine blk_far ?_ NB194_201.out _; (with_reducible repeat (first | refine blk_drewN ?_ _ | refine blk_drew ?_ | refine blk_alloc ?_ _)); refine blk_far ?_ NB194_201.out _; (with_reducible repeat (first | refine blk_drewN ?_ _ | refine blk_drew ?_ | refine blk_alloc ?_ _)); exact BK194.out⟩, ⟨by (with_reducible repeat (first | refine blk_drewN ?_ _ | refine blk_drew ?_ | refine blk_alloc ?_ _)); refine blk_put (cs := #[.int .i64 t195, .int .i64 0]) ?_ 1 _ rfl; (with_reducible repeat (first | refine blk_drewN ?_ _ | refine blk_drew ?_ | refine blk_alloc ?_ _)); refine blk_put (cs := #[.int .i64 0, .int .i64 0]) ?_ 0 _ rfl; (with_reducible repeat (first | refine blk_drewN ?_ _ | refine blk_drew ?_ | refine blk_alloc ?_ _)); exact BK201.out⟩, ⟨by repeat (first | (with_reducible first | exact HB.out | apply below_alloc | apply pw_below_drewN | apply below_drew1 | refine below_set ?_ GE188.out | refine below_set ?_ GE194.out | refine below_set ?_ GE201.out) | exact HB.out)⟩⟩
    case rest =>
      clear HC9
      try clear c1
      try clear c2
      try clear p2
      try clear c3
      try clear c4
      try clear c5
      try clear p6
      try clear c17
      try clear c18
      try clear c21
      try clear c22
      try clear c23
      try clear c26
      try clear c27
      try clear c29
      try clear c29b0
      try clear c29b1
      try clear c30
      try clear c30b0
      try clear c30b1
      try clear c32
      try clear c34
      try clear c35
      try clear c37
      try clear c43
      try clear c44
      try clear c46
      try clear hcz12_0
      try clear hcz12_1
      try clear hcz22_0
      try clear hcz22_1
      try clear hcz23_0
      try clear hcz23_1
      try clear hcz28_0
      try clear hcz28_1
      try clear hcz36_0
      try clear hcz36_1
      try clear hcz38_0
      try clear hcz38_1
      try clear hcz40_0
      try clear hcz40_1
      try clear hcz41_0
      try clear hcz41_1
      try clear hcz45_0
      try clear hcz45_1
      try clear hcz47_0
      try clear hcz47_1
      try clear hfz12_0
      try clear hfz12_1
      try clear hfz22_0
      try clear hfz22_1
      try clear hfz23_0
      try clear hfz23_1
      try clear hfz28_0
      try clear hfz28_1
      try clear hfz36_0
      try clear hfz36_1
      try clear hfz38_0
      try clear hfz38_1
      try clear hfz40_0
      try clear hfz40_1
      try clear hfz41_0
      try clear hfz41_1
      try clear hfz45_0
      try clear hfz45_1
      try clear hfz47_0
      try clear hfz47_1
      obtain ⟨kq, x55_8, rfl, HA, HJ8, HO_11, BK188, BK194, BK201, HB⟩ := hcut
      cases kq with
      | zero => exact absurd HA.out (by simp [waypointlaw37_StagesOrder.j0])
      | succ kj8 =>
        have H := HA.out
        clear HA
        simp only [waypointlaw37_StagesOrder.j0] at H
        by_cases c49 : x55_8 = true
        · subst c49
          have H1 : (none) = some r := by rw [if_pos rfl] at H; exact H
          clear H
          have H := H1
          clear H1
          exact absurd H (by simp)
        · replace c49 := Bool.eq_false_iff.mpr c49
          subst c49
          have H1 : (if (wrap64 (a2)) < (wrap64 (1 + (wrap64 (a0)))) then (if (t195 == 0 && (t196 == (wrap64 ((wrap64 (1 + (wrap64 (a0)))) - (wrap64 (a2)))))) = true then (some ((t197.length : Int) == 0)) else (none)) else (if (wrap64 (a2)) < (wrap64 ((wrap64 (1 + (wrap64 (a0)))) + (wrap64 (1 + (wrap64 (a1)))))) then (if (t195 == 2 && (t196 == (wrap64 ((wrap64 ((wrap64 (1 + (wrap64 (a0)))) + (wrap64 (1 + (wrap64 (a1)))))) - (wrap64 (a2)))))) = true then ((waypointref37_Same.f kj8 t197 (([2] : List Int))).bind fun t207 => (some t207)) else (none)) else (if (t195 == 3 && (t196 == 0)) = true then ((waypointref37_Same.f kj8 t197 (([2, 3] : List Int))).bind fun t211 => (some t211)) else (none)))) = some r := by rw [if_neg (show ¬ (false = true) by decide)] at H; exact H
          clear H
          have H := H1
          clear H1
          by_cases c50 : (wrap64 (a2)) < (wrap64 (1 + (wrap64 (a0))))
          · rw [if_pos c50] at H
            have c50b0 : decide ((wrap64 (a2)) < (wrap64 (1 + (wrap64 (a0))))) = true := decide_eq_true c50
            clear c50
            by_cases c51 : (t195 == 0 && (t196 == (wrap64 ((wrap64 (1 + (wrap64 (a0)))) - (wrap64 (a2)))))) = true
            · rw [if_pos c51] at H
              have c51b0 : (t195 == 0 && (t196 == (wrap64 ((wrap64 (1 + (wrap64 (a0)))) - (wrap64 (a2)))))) = true := c51
              (try (have c51b1 : decide (t195 = 0 && (t196 == (wrap64 ((wrap64 (1 + (wrap64 (a0)))) - (wrap64 (a2)))))) = true := by simpa using c51))
              (try (have c51b2 : (t195 == 0 && (t196 == (wrap64 ((wrap64 (1 + (wrap64 (a0)))) - (wrap64 (a2)))))) = true := by simpa using c51))
              clear c51
              obtain rfl := Option.some.inj H
              have hnb52 := NB188_194.out
              have hnc52 := NB194_188.out
              have hnb53 := NB188_201.out
              have hnc53 := NB201_188.out
              have hcz54_0 : wc.cell? ⟨gb188, 0, none⟩ = some (.int .i64 (wrap64 (1 + (wrap64 (a0))))) := (blk_cell BK188.out 0).trans rfl
              have hcz54_1 : wc.cell? ⟨gb188, 1, none⟩ = some (.int .i64 (wrap64 (1 + (wrap64 (a1))))) := (blk_cell BK188.out 1).trans rfl
              have hfz54_0 := blk_frozen BK188.out 0
              have hfz54_1 := blk_frozen BK188.out 1
              have hnb55 := NB201_194.out
              have hnc55 := NB194_201.out
              have hcz56_0 : wc.cell? ⟨gb201, 0, none⟩ = some (.int .i64 t195) := (blk_cell BK201.out 0).trans rfl
              have hcz56_1 : wc.cell? ⟨gb201, 1, none⟩ = some (.int .i64 t196) := (blk_cell BK201.out 1).trans rfl
              have hfz56_0 := blk_frozen BK201.out 0
              have hfz56_1 := blk_frozen BK201.out 1
              obtain ⟨Ao57, co57, eo57⟩ := Kd.R_slice HO_11.out
              subst eo57
              go_wp2
              go_ret
              exact ⟨by first | rfl | (simp [errW_none, errW_some] <;> rfl) | (simp [*, errW_none, errW_some] <;> rfl), by repeat (first | (with_reducible first | exact HB.out | apply below_alloc | apply pw_below_drewN | apply below_drew1 | refine below_set ?_ GE188.out | refine below_set ?_ GE194.out | refine below_set ?_ GE201.out) | exact HB.out)⟩
            · rw [if_neg c51] at H
              exact absurd H (by simp)
          · rw [if_neg c50] at H
            have c50b0 : decide ((wrap64 (a2)) < (wrap64 (1 + (wrap64 (a0))))) = false := decide_eq_false c50
            clear c50
            by_cases c58 : (wrap64 (a2)) < (wrap64 ((wrap64 (1 + (wrap64 (a0)))) + (wrap64 (1 + (wrap64 (a1))))))
            · rw [if_pos c58] at H
              have c58b0 : decide ((wrap64 (a2)) < (wrap64 ((wrap64 (1 + (wrap64 (a0)))) + (wrap64 (1 + (wrap64 (a1))))))) = true := decide_eq_true c58
              clear c58
              by_cases c59 : (t195 == 2 && (t196 == (wrap64 ((wrap64 ((wrap64 (1 + (wrap64 (a0)))) + (wrap64 (1 + (wrap64 (a1)))))) - (wrap64 (a2)))))) = true
              · rw [if_pos c59] at H
                have c59b0 : (t195 == 2 && (t196 == (wrap64 ((wrap64 ((wrap64 (1 + (wrap64 (a0)))) + (wrap64 (1 + (wrap64 (a1)))))) - (wrap64 (a2)))))) = true := c59
                (try (have c59b1 : decide (t195 = 2 && (t196 == (wrap64 ((wrap64 ((wrap64 (1 + (wrap64 (a0)))) + (wrap64 (1 + (wrap64 (a1)))))) - (wrap64 (a2)))))) = true := by simpa using c59))
                (try (have c59b2 : (t195 == 2 && (t196 == (wrap64 ((wrap64 ((wrap64 (1 + (wrap64 (a0)))) + (wrap64 (1 + (wrap64 (a1)))))) - (wrap64 (a2)))))) = true := by simpa using c59))
                clear c59
                obtain ⟨y204, hy204⟩ : ∃ y_ : List Int, y_ = (([2] : List Int)) := ⟨_, rfl⟩
                replace H : ((waypointref37_Same.f kj8 t197 y204).bind fun t207 => (some t207)) = some r := by first | (rw [hy204]; with_reducible exact H) | (have H2_ := (Option.bind_some _ _).symm.trans H; rw [hy204]; with_reducible exact H2_) | (have H2_ := (Option.bind_some _ _).symm.trans H; with_reducible exact H2_) | with_reducible exact H | (rw [hy204]; exact H) | exact H
                have Ny204 := Aside0.mk hy204
                clear hy204
                replace H := Option.bind_eq_some_iff.mp H
                obtain ⟨t207, A600, H⟩ := H
                replace H : (some t207) = some r := H
                have A60 := Aside0.mk A600
                clear A600
                obtain rfl := Option.some.inj H
                have hnb61 := NB188_194.out
                have hnc61 := NB194_188.out
                have hnb62 := NB188_201.out
                have hnc62 := NB201_188.out
                have hcz63_0 : wc.cell? ⟨gb188, 0, none⟩ = some (.int .i64 (wrap64 (1 + (wrap64 (a0))))) := (blk_cell BK188.out 0).trans rfl
                have hcz63_1 : wc.cell? ⟨gb188, 1, none⟩ = some (.int .i64 (wrap64 (1 + (wrap64 (a1))))) := (blk_cell BK188.out 1).trans rfl
                have hfz63_0 := blk_frozen BK188.out 0
                have hfz63_1 := blk_frozen BK188.out 1
                have hnb64 := NB201_194.out
                have hnc64 := NB194_201.out
                have hcz65_0 : wc.cell? ⟨gb201, 0, none⟩ = some (.int .i64 t195) := (blk_cell BK201.out 0).trans rfl
                have hcz65_1 : wc.cell? ⟨gb201, 1, none⟩ = some (.int .i64 t196) := (blk_cell BK201.out 1).trans rfl
                have hfz65_0 := blk_frozen BK201.out 0
                have hfz65_1 := blk_frozen BK201.out 1
                go_wp2_with (first | ((with_reducible refine gate_dst (N := 95) rfl ?_); (try (refine gate_guard (by rfl) ?_; dsimp only)); refine Kd.R_lit (Kd.int .i64) _ 3 ?hg (N := 95) ?hd (xs := ([2] : List Int)) (inner := [.int .i64 2]) (ok := fun _ => True) (okp := fun _ => True) ?hr ?hp (fun _ hk => hk) trivial (Below.refl _ _) (Nat.le_refl _) (by simp) ?_; (case hd => rfl); (case hg => rfl); (case hr => first | (go_simp; done) | (go_simp; rfl)); (case hp => exact (Reps.one (show Kd.M (Kd.int .i64) _ _ _ 2 [.int .i64 2] from rfl) (Reps.none _ _))); intro v205 w66 ho67 hb hg_ hnew_; clear hg_ hnew_; (first | rw [← Ny204.out] at ho67 | (simp only [Int.reduceToNat] at ho67; rw [← Ny204.out] at ho67)); have n0_ := Aside0.mk (Kd.R_elder' (by (with_reducible repeat (first | apply Kd.R_alloc | apply Kd.R_drewN | apply Kd.R_drew)); exact HO_11.out) (Kd.R_base ho67) hb); have n1_ := Aside0.mk (Kd.R_lower (Kd.R_new' ho67 (Kd.R_lt (by (with_reducible repeat (first | apply Kd.R_alloc | apply Kd.R_drewN | apply Kd.R_drew)); exact HO_11.out))) (below_size (by repeat (first | (with_reducible first | exact HB.out | apply below_alloc | apply pw_below_drewN | apply below_drew1 | refine below_set ?_ GE188.out | refine below_set ?_ GE194.out | refine below_set ?_ GE201.out) | exact HB.out)))); have n2_ := Aside0.mk (blk_below (g := gb188) (o := .cells #[.int .i64 (wrap64 (1 + (wrap64 (a0)))), .int .i64 (wrap64 (1 + (wrap64 (a1))))] 34 (0, 0)) (by (with_reducible repeat (first | refine blk_drewN ?_ _ | refine blk_drew ?_ | refine blk_alloc ?_ _)); exact BK188.out) hb); have n3_ := Aside0.mk (blk_below (g := gb194) (o := .cells #[.int .i64 t191, .int .i64 t192] 30 (0, 0)) (by (with_reducible repeat (first | refine blk_drewN ?_ _ | refine blk_drew ?_ | refine blk_alloc ?_ _)); exact BK194.out) hb); have n4_ := Aside0.mk (blk_below (g := gb201) (o := .cells #[.int .i64 t195, .int .i64 t196] 30 (0, 0)) (by (with_reducible repeat (first | refine blk_drewN ?_ _ | refine blk_drew ?_ | refine blk_alloc ?_ _)); exact BK201.out) hb); have n5_ := Aside0.mk (below_step (by repeat (first | (with_reducible first | exact HB.out | apply below_alloc | apply pw_below_drewN | apply below_drew1 | refine below_set ?_ GE188.out | refine below_set ?_ GE194.out | refine below_set ?_ GE201.out) | exact HB.out)) hb); clear HO_11; clear BK188; clear BK194; clear BK201; clear HB; have HO_11 := n0_; have HO206 := n1_; have BK188 := n2_; have BK194 := n3_; have BK201 := n4_; have HB := n5_; clear n0_ n1_ n2_ n3_ n4_ n5_; clear hb ho67; obtain ⟨Ao68, co68, eo68⟩ := Kd.R_slice HO_11.out; subst eo68; obtain ⟨Ao69, co69, eo69⟩ := Kd.R_slice HO206.out; subst eo69) | (go_at_call 21; (with_reducible refine (waypointref37_Same.calls kj8 _ _ t197 _ _ y204 t207 _ ?side1 ?side2 ?side3 ?side4 A60.out).mono ?_); (case side1 => repeat (first | exact (Kd.R_reads' HO_11.out).2.2 | (with_reducible refine Kd.C_alloc ?_ _) | (with_reducible refine Kd.C_drewN ?_ _) | (with_reducible refine Kd.C_drew ?_))); (case side2 => exact (Kd.R_reads' HO_11.out).2.1); (case side3 => repeat (first | exact (Kd.R_reads' HO206.out).2.2 | (with_reducible refine Kd.C_alloc ?_ _) | (with_reducible refine Kd.C_drewN ?_ _) | (with_reducible refine Kd.C_drew ?_))); (case side4 => exact (Kd.R_reads' HO206.out).2.1); rintro e w' ⟨rfl, ⟨nd, rfl⟩⟩))
                go_ret
                exact ⟨by first | rfl | (simp [errW_none, errW_some] <;> rfl) | (simp [*, errW_none, errW_some] <;> rfl), by repeat (first | (with_reducible first | exact HB.out | apply below_alloc | apply pw_below_drewN | apply below_drew1 | refine below_set ?_ GE188.out | refine below_set ?_ GE194.out | refine below_set ?_ GE201.out) | exact HB.out)⟩
              · rw [if_neg c59] at H
                exact absurd H (by simp)
            · rw [if_neg c58] at H
              have c58b0 : decide ((wrap64 (a2)) < (wrap64 ((wrap64 (1 + (wrap64 (a0)))) + (wrap64 (1 + (wrap64 (a1))))))) = false := decide_eq_false c58
              clear c58
              by_cases c70 : (t195 == 3 && (t196 == 0)) = true
              · rw [if_pos c70] at H
                have c70b0 : (t195 == 3 && (t196 == 0)) = true := c70
                (try (have c70b1 : decide (t195 = 3 && (t196 == 0)) = true := by simpa using c70))
                (try (have c70b2 : (t195 == 3 && (t196 == 0)) = true := by simpa using c70))
                clear c70
                obtain ⟨y208, hy208⟩ : ∃ y_ : List Int, y_ = (([2, 3] : List Int)) := ⟨_, rfl⟩
                replace H : ((waypointref37_Same.f kj8 t197 y208).bind fun t211 => (some t211)) = some r := by first | (rw [hy208]; with_reducible exact H) | (have H2_ := (Option.bind_some _ _).symm.trans H; rw [hy208]; with_reducible exact H2_) | (have H2_ := (Option.bind_some _ _).symm.trans H; with_reducible exact H2_) | with_reducible exact H | (rw [hy208]; exact H) | exact H
                have Ny208 := Aside0.mk hy208
                clear hy208
                replace H := Option.bind_eq_some_iff.mp H
                obtain ⟨t211, A710, H⟩ := H
                replace H : (some t211) = some r := H
                have A71 := Aside0.mk A710
                clear A710
                obtain rfl := Option.some.inj H
                have hnb72 := NB188_194.out
                have hnc72 := NB194_188.out
                have hnb73 := NB188_201.out
                have hnc73 := NB201_188.out
                have hcz74_0 : wc.cell? ⟨gb188, 0, none⟩ = some (.int .i64 (wrap64 (1 + (wrap64 (a0))))) := (blk_cell BK188.out 0).trans rfl
                have hcz74_1 : wc.cell? ⟨gb188, 1, none⟩ = some (.int .i64 (wrap64 (1 + (wrap64 (a1))))) := (blk_cell BK188.out 1).trans rfl
                have hfz74_0 := blk_frozen BK188.out 0
                have hfz74_1 := blk_frozen BK188.out 1
                have hnb75 := NB201_194.out
                have hnc75 := NB194_201.out
                have hcz76_0 : wc.cell? ⟨gb201, 0, none⟩ = some (.int .i64 t195) := (blk_cell BK201.out 0).trans rfl
                have hcz76_1 : wc.cell? ⟨gb201, 1, none⟩ = some (.int .i64 t196) := (blk_cell BK201.out 1).trans rfl
                have hfz76_0 := blk_frozen BK201.out 0
                have hfz76_1 := blk_frozen BK201.out 1
                go_wp2_with (first | ((with_reducible refine gate_dst (N := 103) rfl ?_); (try (refine gate_guard (by rfl) ?_; dsimp only)); refine Kd.R_lit (Kd.int .i64) _ 3 ?hg (N := 103) ?hd (xs := ([2, 3] : List Int)) (inner := [.int .i64 2, .int .i64 3]) (ok := fun _ => True) (okp := fun _ => True) ?hr ?hp (fun _ hk => hk) trivial (Below.refl _ _) (Nat.le_refl _) (by simp) ?_; (case hd => rfl); (case hg => rfl); (case hr => first | (go_simp; done) | (go_simp; rfl)); (case hp => exact (Reps.one (show Kd.M (Kd.int .i64) _ _ _ 2 [.int .i64 2] from rfl) (Reps.one (show Kd.M (Kd.int .i64) _ _ _ 3 [.int .i64 3] from rfl) (Reps.none _ _)))); intro v209 w77 ho78 hb hg_ hnew_; clear hg_ hnew_; (first | rw [← Ny208.out] at ho78 | (simp only [Int.reduceToNat] at ho78; rw [← Ny208.out] at ho78)); have n0_ := Aside0.mk (Kd.R_elder' (by (with_reducible repeat (first | apply Kd.R_alloc | apply Kd.R_drewN | apply Kd.R_drew)); exact HO_11.out) (Kd.R_base ho78) hb); have n1_ := Aside0.mk (Kd.R_lower (Kd.R_new' ho78 (Kd.R_lt (by (with_reducible repeat (first | apply Kd.R_alloc | apply Kd.R_drewN | apply Kd.R_drew)); exact HO_11.out))) (below_size (by repeat (first | (with_reducible first | exact HB.out | apply below_alloc | apply pw_below_drewN | apply below_drew1 | refine below_set ?_ GE188.out | refine below_set ?_ GE194.out | refine below_set ?_ GE201.out) | exact HB.out)))); have n2_ := Aside0.mk (blk_below (g := gb188) (o := .cells #[.int .i64 (wrap64 (1 + (wrap64 (a0)))), .int .i64 (wrap64 (1 + (wrap64 (a1))))] 34 (0, 0)) (by (with_reducible repeat (first | refine blk_drewN ?_ _ | refine blk_drew ?_ | refine blk_alloc ?_ _)); exact BK188.out) hb); have n3_ := Aside0.mk (blk_below (g := gb194) (o := .cells #[.int .i64 t191, .int .i64 t192] 30 (0, 0)) (by (with_reducible repeat (first | refine blk_drewN ?_ _ | refine blk_drew ?_ | refine blk_alloc ?_ _)); exact BK194.out) hb); have n4_ := Aside0.mk (blk_below (g := gb201) (o := .cells #[.int .i64 t195, .int .i64 t196] 30 (0, 0)) (by (with_reducible repeat (first | refine blk_drewN ?_ _ | refine blk_drew ?_ | refine blk_alloc ?_ _)); exact BK201.out) hb); have n5_ := Aside0.mk (below_step (by repeat (first | (with_reducible first | exact HB.out | apply below_alloc | apply pw_below_drewN | apply below_drew1 | refine below_set ?_ GE188.out | refine below_set ?_ GE194.out | refine below_set ?_ GE201.out) | exact HB.out)) hb); clear HO_11; clear BK188; clear BK194; clear BK201; clear HB; have HO_11 := n0_; have HO210 := n1_; have BK188 := n2_; have BK194 := n3_; have BK201 := n4_; have HB := n5_; clear n0_ n1_ n2_ n3_ n4_ n5_; clear hb ho78; obtain ⟨Ao79, co79, eo79⟩ := Kd.R_slice HO_11.out; subst eo79; obtain ⟨Ao80, co80, eo80⟩ := Kd.R_slice HO210.out; subst eo80) | (go_at_call 21; (with_reducible refine (waypointref37_Same.calls kj8 _ _ t197 _ _ y208 t211 _ ?side1 ?side2 ?side3 ?side4 A71.out).mono ?_); (case side1 => repeat (first | exact (Kd.R_reads' HO_11.out).2.2 | (with_reducible refine Kd.C_alloc ?_ _) | (with_reducible refine Kd.C_drewN ?_ _) | (with_reducible refine Kd.C_drew ?_))); (case side2 => exact (Kd.R_reads' HO_11.out).2.1); (case side3 => repeat (first | exact (Kd.R_reads' HO210.out).2.2 | (with_reducible refine Kd.C_alloc ?_ _) | (with_reducible refine Kd.C_drewN ?_ _) | (with_reducible refine Kd.C_drew ?_))); (case side4 => exact (Kd.R_reads' HO210.out).2.1); rintro e w' ⟨rfl, ⟨nd, rfl⟩⟩))
                go_ret
                exact ⟨by first | rfl | (simp [errW_none, errW_some] <;> rfl) | (simp [*, errW_none, errW_some] <;> rfl), by repeat (first | (with_reducible first | exact HB.out | apply below_alloc | apply pw_below_drewN | apply below_drew1 | refine below_set ?_ GE188.out | refine below_set ?_ GE194.out | refine below_set ?_ GE201.out) | exact HB.out)⟩
              · rw [if_neg c70] at H
                exact absurd H (by simp)
  · replace c5 := Bool.eq_false_iff.mpr c5
    subst c5
    have H1 : (none) = some r := by rw [if_neg (show ¬ (false = true) by decide)] at H; exact H
    clear H
    have H := H1
    clear H1
    exact absurd H (by simp)

end Go.Proofs.Ytddklmefighilaa.HStages
