-- LAID by wip/hand.py, a program of this repository, over the kit's print: contracts of our own are put in. Lean checks it.
import Derived.Test.YtmknjjfdlkgidaaHLscx0
import Derived.Test.YtmknjjfdlkgidaaHLscx2
import Derived.Test.YtmknjjfdlkgidaaHLscx12
namespace Go.Proofs.Ytmknjjfdlkgidaa.HLsc
open Go.RowKit Go.Proofs.YtmknjjfdlkgidaaW.PrintWords Go.Proofs.YtmknjjfdlkgidaaW.PrintLast Go.Proofs.YtmknjjfdlkgidaaW.PrintMore
attribute [local go_sem] gtr_str leq_str max2_int min2_int max_two min_two max_three min_three max_four min_four   -- for this text's walks alone
set_option linter.unusedVariables false
set_option linter.unusedSimpArgs false

attribute [local go_sem high] eqA56
/-! ### api_Adjacency: function 51 -/
def api_Adjacency.l0 : Nat → List (S43) → List (S43) → Int → Int → Option (Bool)
 | 0, _, _, _, _ => none
 | k + 1, x1, x15, x16, x17 => if x17 < x16 then (if 0 ≤ x17 then (if x17 < (x15.length : Int) then (if x17 < (x1.length : Int) then ((lsa_Same_1.f ((rd_T43 x15 x17).f0) ((rd_T43 x15 x17).f1) ((rd_T43 x15 x17).f2) ((rd_T43 x1 x17).f0) ((rd_T43 x1 x17).f1) ((rd_T43 x1 x17).f2)).bind fun t285 => (if t285 = true then (api_Adjacency.l0 k x1 x15 x16 (wrap64 (x17 + 1))) else (some false))) else (none)) else (none)) else (none)) else (some true)
def api_Adjacency.f (k : Nat) (l0 : List (S43)) (l1 : List (S43))  : Option (Bool) := if (l0.length : Int) = (l1.length : Int) then (api_Adjacency.l0 k l1 l0 (l0.length : Int) 0) else (some false)
theorem api_Adjacency.mono_l : ∀ k, (∀ y0 y1 y2 y3, LeO (api_Adjacency.l0 k y0 y1 y2 y3) (api_Adjacency.l0 (k + 1) y0 y1 y2 y3))
 | 0 => fun _ _ _ _ r h => by simp [api_Adjacency.l0] at h
 | k + 1 => by
  have ih0 := api_Adjacency.mono_l k
  ·intro y0 y1 y2 y3
   unfold api_Adjacency.l0
   repeat' first
   | (with_reducible exact ih0 _ _ _ _)
   | (with_reducible exact LeO.refl _)
   | (with_reducible exact LeO.none _)
   | (with_reducible refine LeO.ite ?_ ?_)
   | (with_reducible refine LeO.bind ?_ (fun _ => ?_))
   | exact ih0 _ _ _ _
   | exact LeO.none _
   | refine LeO.ite ?_ ?_
   | refine LeO.bind ?_ (fun _ => ?_)
theorem api_Adjacency.mono : ∀ a0 a1 k, LeO (api_Adjacency.f k a0 a1) (api_Adjacency.f (k + 1) a0 a1) := by
 intro a0 a1 k
 have ih0 := api_Adjacency.mono_l k
 unfold api_Adjacency.f
 repeat' first
   | (with_reducible exact ih0 _ _ _ _)
   | (with_reducible exact LeO.refl _)
   | (with_reducible exact LeO.none _)
   | (with_reducible refine LeO.ite ?_ ?_)
   | (with_reducible refine LeO.bind ?_ (fun _ => ?_))
   | exact ih0 _ _ _ _
   | exact LeO.none _
   | refine LeO.ite ?_ ?_
   | refine LeO.bind ?_ (fun _ => ?_)
set_option maxHeartbeats 8000000 in
set_option maxRecDepth 100000 in
theorem api_Adjacency.calls (k : Nat) (A0 : Option Addr) (c0 : Nat) (l0 : List (S43)) (A1 : Option Addr) (c1 : Nat) (l1 : List (S43))  (r : Bool) (w : World) (hr0 : Kd.C k43 w A0 l0.length l0) (hc0 : l0.length ≤ c0) (hr1 : Kd.C k43 w A1 l1.length l1) (hc1 : l1.length ≤ c1) (h : api_Adjacency.f k l0 l1 = some r) :
  Calls Try.prog 51 #[.slice A0 l0.length c0, .slice A1 l1.length c1, .func (.func 49) #[] #[]] w fun e w' => e = .returned (.bool r) ∧ Below w.heap.size w w' := by
 have hu43 := Try.underlying43
 have HR0 := Aside0.mk hr0
 have HC0 := Aside0.mk hc0
 clear hr0 hc0
 have HR1 := Aside0.mk hr1
 have HC1 := Aside0.mk hc1
 clear hr1 hc1
 have HB := Aside0.mk (Below.refl w.heap.size w)
 have H : (if (l0.length : Int) = (l1.length : Int) then (api_Adjacency.l0 k l1 l0 (l0.length : Int) 0) else (some false)) = some r := h
 clear h
 by_cases c4 : (l0.length : Int) = (l1.length : Int)
 ·rw [if_pos c4] at H
  have c4b0 : ((l0.length : Int) == (l1.length : Int)) = true := beq_iff_eq.mpr c4
  have c4b1 : ((l0.length : Int) != (l1.length : Int)) = false := bne_eq_false_iff_eq.mpr c4
  have c4b2 : (l0.length == l1.length) = true := by first | simpa using c4 | (simp at c4 ⊢; omega)
  clear c4
  have H' := Aside0.mk H
  clear H
  go_enter Try.func51, Try.ntmps51
  go_wp2
  go_loopg [17] k (fun kq v17 w' => ∃ (x17_1 : Int), v17 = .int .i64 x17_1 ∧ Aside0 (api_Adjacency.l0 kq l1 l0 (l0.length : Int) x17_1 = some r) ∧ Aside0 (kq ≤ k) ∧ Aside0 (Below w.heap.size w w'))
  case atStart => exact ⟨(0), (by first | rfl | (simp; done) | (simp [*]; done)), H', ⟨Nat.le_refl _⟩, ⟨kw_ HB⟩⟩
  case round =>
   clear H'
   (try clear c1); (try clear c4); (try clear c4b0); (try clear c4b1); (try clear c4b2)
   obtain ⟨x17_1, rfl, HA, HK1, HB⟩ := hrel
   cases gk with
   | zero => exact absurd HA.out (by simp [api_Adjacency.l0])
   | succ k1 =>
    have H := HA.out
    clear HA
    simp only [api_Adjacency.l0] at H
    by_cases c5 : x17_1 < (l0.length : Int)
    ·rw [if_pos c5] at H
     have c5b0 : decide (x17_1 < (l0.length : Int)) = true := decide_eq_true c5
     clear c5
     by_cases c6 : 0 ≤ x17_1
     ·rw [if_pos c6] at H
      have c6b0 : decide (0 ≤ x17_1) = true := decide_eq_true c6
      clear c6
      by_cases c7 : x17_1 < (l0.length : Int)
      ·rw [if_pos c7] at H
       have c7b0 : decide (x17_1 < (l0.length : Int)) = true := decide_eq_true c7
       clear c7
       by_cases c8 : x17_1 < (l1.length : Int)
       ·rw [if_pos c8] at H
        have c8b0 : decide (x17_1 < (l1.length : Int)) = true := decide_eq_true c8
        clear c8
        replace H := Option.bind_eq_some_iff.mp H
        obtain ⟨t285, A90, H⟩ := H
        replace H : (if t285 = true then (api_Adjacency.l0 k1 l1 l0 (l0.length : Int) (wrap64 (x17_1 + 1))) else (some false)) = some r := H
        have A9 := Aside0.mk A90
        clear A90
        by_cases c10 : t285 = true
        ·subst c10
         have H1 : (api_Adjacency.l0 k1 l1 l0 (l0.length : Int) (wrap64 (x17_1 + 1))) = some r := by rw [if_pos rfl] at H; exact H
         clear H
         have H := H1
         clear H1
         have H' := Aside0.mk H
         clear H
         have p281 : 0 ≤ (x17_1 : Int) := of_decide_eq_true (by first | (with_reducible assumption) | assumption)
         have q281 : x17_1 < (l0.length : Int) := of_decide_eq_true (by first | (with_reducible assumption) | assumption)
         obtain ⟨ad281, e281, hx281_0, hx281_1, hx281_2⟩ := at_T43 HR0.out x17_1 p281 q281
         cases e281
         replace hx281_0 := (HB.out.cell (World.block_lt_of_cell? w _ hx281_0)).trans hx281_0
         replace hx281_1 := (HB.out.cell (World.block_lt_of_cell? w _ hx281_1)).trans hx281_1
         replace hx281_2 := (HB.out.cell (World.block_lt_of_cell? w _ hx281_2)).trans hx281_2
         replace p281 := eq_true p281
         replace q281 := eq_true q281
         go_wp2_with (first | ((with_reducible refine gate_dst (N := 8) rfl ?_); refine bx_ 8 #[.int .i64 0, .int .i64 0, .int .i64 0] 43 rfl rfl ?hr ?_; (case hr => go_simp; try rfl); intro gb282 hg w11 hbox hb; have BK282 := Aside0.mk (hbox); have GW282 := gs_ HB hg; have GE282 := gs_ HB hg; replace HB := bs_ HB hb; clear hb hbox hg; obtain ⟨hcz12_0, hcz12_1, hcz12_2, hfz12_0, hfz12_1, hfz12_2⟩ := c3_ BK282; have p283 : 0 ≤ (x17_1 : Int) := of_decide_eq_true (by first | (with_reducible assumption) | assumption); have q283 : x17_1 < (l1.length : Int) := of_decide_eq_true (by first | (with_reducible assumption) | assumption); obtain ⟨ad283, e283, hx283_0, hx283_1, hx283_2⟩ := at_T43 HR1.out x17_1 p283 q283; cases e283; have hn283_0 : ad283.block ≠ gb282 := Nat.ne_of_lt (Nat.lt_of_lt_of_le (by have := World.block_lt_of_cell? _ _ hx283_0; first | rwa [add_block] at this | exact this) GW282.out); have hn283_1 : ad283.block ≠ gb282 := Nat.ne_of_lt (Nat.lt_of_lt_of_le (by have := World.block_lt_of_cell? _ _ hx283_0; first | rwa [add_block] at this | exact this) GW282.out); have hn283_2 : ad283.block ≠ gb282 := Nat.ne_of_lt (Nat.lt_of_lt_of_le (by have := World.block_lt_of_cell? _ _ hx283_0; first | rwa [add_block] at this | exact this) GW282.out); replace hx283_0 := (HB.out.cell (World.block_lt_of_cell? w _ hx283_0)).trans hx283_0; replace hx283_1 := (HB.out.cell (World.block_lt_of_cell? w _ hx283_1)).trans hx283_1; replace hx283_2 := (HB.out.cell (World.block_lt_of_cell? w _ hx283_2)).trans hx283_2; replace hx283_0 := (cell_far (p := ⟨gb282, 0, none⟩) (by first | (rw [add_block]; exact hn283_0) | (show (Addr.add _ _).block ≠ _; rw [add_block]; exact hn283_0) | exact hn283_0) (.int .i64 ((rd_T43 l0 x17_1).f0))).trans hx283_0; replace hx283_1 := (cell_far (p := ⟨gb282, 0, none⟩) (by first | (rw [add_block]; exact hn283_0) | (show (Addr.add _ _).block ≠ _; rw [add_block]; exact hn283_0) | exact hn283_0) (.int .i64 ((rd_T43 l0 x17_1).f0))).trans hx283_1; replace hx283_2 := (cell_far (p := ⟨gb282, 0, none⟩) (by first | (rw [add_block]; exact hn283_0) | (show (Addr.add _ _).block ≠ _; rw [add_block]; exact hn283_0) | exact hn283_0) (.int .i64 ((rd_T43 l0 x17_1).f0))).trans hx283_2; replace hx283_0 := (cell_far (p := ⟨gb282, 1, none⟩) (by first | (rw [add_block]; exact hn283_1) | (show (Addr.add _ _).block ≠ _; rw [add_block]; exact hn283_1) | exact hn283_1) (.int .i64 ((rd_T43 l0 x17_1).f1))).trans hx283_0; replace hx283_1 := (cell_far (p := ⟨gb282, 1, none⟩) (by first | (rw [add_block]; exact hn283_1) | (show (Addr.add _ _).block ≠ _; rw [add_block]; exact hn283_1) | exact hn283_1) (.int .i64 ((rd_T43 l0 x17_1).f1))).trans hx283_1; replace hx283_2 := (cell_far (p := ⟨gb282, 1, none⟩) (by first | (rw [add_block]; exact hn283_1) | (show (Addr.add _ _).block ≠ _; rw [add_block]; exact hn283_1) | exact hn283_1) (.int .i64 ((rd_T43 l0 x17_1).f1))).trans hx283_2; replace hx283_0 := (cell_far (p := ⟨gb282, 2, none⟩) (by first | (rw [add_block]; exact hn283_2) | (show (Addr.add _ _).block ≠ _; rw [add_block]; exact hn283_2) | exact hn283_2) (.int .i64 ((rd_T43 l0 x17_1).f2))).trans hx283_0; replace hx283_1 := (cell_far (p := ⟨gb282, 2, none⟩) (by first | (rw [add_block]; exact hn283_2) | (show (Addr.add _ _).block ≠ _; rw [add_block]; exact hn283_2) | exact hn283_2) (.int .i64 ((rd_T43 l0 x17_1).f2))).trans hx283_1; replace hx283_2 := (cell_far (p := ⟨gb282, 2, none⟩) (by first | (rw [add_block]; exact hn283_2) | (show (Addr.add _ _).block ≠ _; rw [add_block]; exact hn283_2) | exact hn283_2) (.int .i64 ((rd_T43 l0 x17_1).f2))).trans hx283_2; clear hn283_0; clear hn283_1; clear hn283_2; replace p283 := eq_true p283; replace q283 := eq_true q283) | ((with_reducible refine gate_dst (N := 9) rfl ?_); refine bx_ 9 #[.int .i64 0, .int .i64 0, .int .i64 0] 43 rfl rfl ?hr ?_; (case hr => go_simp; try rfl); intro gb284 hg w13 hbox hb; have BK284 := Aside0.mk (hbox); have GW284 := Aside0.mk ((by rw [hg]; exact (below_size (by repeat (first | (with_reducible first | exact HB.out | apply bU | apply bS GE282.out) | exact HB.out))) : w.heap.size ≤ gb284)); have GE284 := Aside0.mk ((by rw [hg]; exact (below_size (by repeat (first | (with_reducible first | exact HB.out | apply bU | apply bS GE282.out) | exact HB.out))) : w.heap.size ≤ gb284)); have NB282_284 := Aside0.mk ((by rw [hg]; exact Nat.ne_of_lt (blk_lt (g := gb282) (o := .cells #[.int .i64 ((rd_T43 l0 x17_1).f0), .int .i64 ((rd_T43 l0 x17_1).f1), .int .i64 ((rd_T43 l0 x17_1).f2)] 43 (0, 0)) (by (with_reducible repeat (first | refine blk_drewN ?_ _ | refine blk_drew ?_ | refine blk_alloc ?_ _)); refine blk_put (cs := #[.int .i64 ((rd_T43 l0 x17_1).f0), .int .i64 ((rd_T43 l0 x17_1).f1), .int .i64 0]) ?_ 2 _ rfl; (with_reducible repeat (first | refine blk_drewN ?_ _ | refine blk_drew ?_ | refine blk_alloc ?_ _)); refine blk_put (cs := #[.int .i64 ((rd_T43 l0 x17_1).f0), .int .i64 0, .int .i64 0]) ?_ 1 _ rfl; (with_reducible repeat (first | refine blk_drewN ?_ _ | refine blk_drew ?_ | refine blk_alloc ?_ _)); refine blk_put (cs := #[.int .i64 0, .int .i64 0, .int .i64 0]) ?_ 0 _ rfl; (with_reducible repeat (first | refine blk_drewN ?_ _ | refine blk_drew ?_ | refine blk_alloc ?_ _)); exact BK282.out)) : gb282 ≠ gb284)); have NB284_282 := Aside0.mk ((by rw [hg]; exact Nat.ne_of_gt (blk_lt (g := gb282) (o := .cells #[.int .i64 ((rd_T43 l0 x17_1).f0), .int .i64 ((rd_T43 l0 x17_1).f1), .int .i64 ((rd_T43 l0 x17_1).f2)] 43 (0, 0)) (by (with_reducible repeat (first | refine blk_drewN ?_ _ | refine blk_drew ?_ | refine blk_alloc ?_ _)); refine blk_put (cs := #[.int .i64 ((rd_T43 l0 x17_1).f0), .int .i64 ((rd_T43 l0 x17_1).f1), .int .i64 0]) ?_ 2 _ rfl; (with_reducible repeat (first | refine blk_drewN ?_ _ | refine blk_drew ?_ | refine blk_alloc ?_ _)); refine blk_put (cs := #[.int .i64 ((rd_T43 l0 x17_1).f0), .int .i64 0, .int .i64 0]) ?_ 1 _ rfl; (with_reducible repeat (first | refine blk_drewN ?_ _ | refine blk_drew ?_ | refine blk_alloc ?_ _)); refine blk_put (cs := #[.int .i64 0, .int .i64 0, .int .i64 0]) ?_ 0 _ rfl; (with_reducible repeat (first | refine blk_drewN ?_ _ | refine blk_drew ?_ | refine blk_alloc ?_ _)); exact BK282.out)) : gb284 ≠ gb282)); replace BK282 := Aside0.mk (blk_below (g := gb282) (o := .cells #[.int .i64 ((rd_T43 l0 x17_1).f0), .int .i64 ((rd_T43 l0 x17_1).f1), .int .i64 ((rd_T43 l0 x17_1).f2)] 43 (0, 0)) (by (with_reducible repeat (first | refine blk_drewN ?_ _ | refine blk_drew ?_ | refine blk_alloc ?_ _)); refine blk_put (cs := #[.int .i64 ((rd_T43 l0 x17_1).f0), .int .i64 ((rd_T43 l0 x17_1).f1), .int .i64 0]) ?_ 2 _ rfl; (with_reducible repeat (first | refine blk_drewN ?_ _ | refine blk_drew ?_ | refine blk_alloc ?_ _)); refine blk_put (cs := #[.int .i64 ((rd_T43 l0 x17_1).f0), .int .i64 0, .int .i64 0]) ?_ 1 _ rfl; (with_reducible repeat (first | refine blk_drewN ?_ _ | refine blk_drew ?_ | refine blk_alloc ?_ _)); refine blk_put (cs := #[.int .i64 0, .int .i64 0, .int .i64 0]) ?_ 0 _ rfl; (with_reducible repeat (first | refine blk_drewN ?_ _ | refine blk_drew ?_ | refine blk_alloc ?_ _)); exact BK282.out) hb); replace HB := Aside0.mk (below_step (by repeat (first | (with_reducible first | exact HB.out | apply bU | apply bS GE282.out) | exact HB.out)) hb); clear hb hbox hg; have hnb14 := NB284_282.out; have hnc14 := NB282_284.out; obtain ⟨hcz15_0, hcz15_1, hcz15_2, hfz15_0, hfz15_1, hfz15_2⟩ := c3_ BK284; obtain ⟨hcz16_0, hcz16_1, hcz16_2, hfz16_0, hfz16_1, hfz16_2⟩ := c3_ BK282) | ((with_reducible refine gate_tmp (s := 26) rfl ?_); refine goesT_ (some 29) rfl rfl Try.func49 (by kernel_rfl) rfl #[.agg #[.int .i64 ((rd_T43 l0 x17_1).f0), .int .i64 ((rd_T43 l0 x17_1).f1), .int .i64 ((rd_T43 l0 x17_1).f2)], .agg #[.int .i64 ((rd_T43 l1 x17_1).f0), .int .i64 ((rd_T43 l1 x17_1).f1), .int .i64 ((rd_T43 l1 x17_1).f2)]] rfl rfl (by (try simp only [List.map_toArray, List.map_cons, List.map_nil]); first | done | rfl | (simp only [List.length_drop, List.length_take]; rfl)) ?_; (with_reducible refine (lsa_Same_1.calls ((rd_T43 l0 x17_1).f0) ((rd_T43 l0 x17_1).f1) ((rd_T43 l0 x17_1).f2) ((rd_T43 l1 x17_1).f0) ((rd_T43 l1 x17_1).f1) ((rd_T43 l1 x17_1).f2) true _ A9.out).mono ?_); rintro e w17 ⟨rfl, hb⟩; refine ⟨_, rfl, ?_⟩; replace BK282 := Aside0.mk (blk_below (g := gb282) (o := .cells #[.int .i64 ((rd_T43 l0 x17_1).f0), .int .i64 ((rd_T43 l0 x17_1).f1), .int .i64 ((rd_T43 l0 x17_1).f2)] 43 (0, 0)) (by (with_reducible repeat (first | refine blk_drewN ?_ _ | refine blk_drew ?_ | refine blk_alloc ?_ _)); refine blk_far ?_ NB282_284.out _; (with_reducible repeat (first | refine blk_drewN ?_ _ | refine blk_drew ?_ | refine blk_alloc ?_ _)); refine blk_far ?_ NB282_284.out _; (with_reducible repeat (first | refine blk_drewN ?_ _ | refine blk_drew ?_ | refine blk_alloc ?_ _)); refine blk_far ?_ NB282_284.out _; (with_reducible repeat (first | refine blk_drewN ?_ _ | refine blk_drew ?_ | refine blk_alloc ?_ _)); exact BK282.out) hb); replace BK284 := Aside0.mk (blk_below (g := gb284) (o := .cells #[.int .i64 ((rd_T43 l1 x17_1).f0), .int .i64 ((rd_T43 l1 x17_1).f1), .int .i64 ((rd_T43 l1 x17_1).f2)] 43 (0, 0)) (by (with_reducible repeat (first | refine blk_drewN ?_ _ | refine blk_drew ?_ | refine blk_alloc ?_ _)); refine blk_put (cs := #[.int .i64 ((rd_T43 l1 x17_1).f0), .int .i64 ((rd_T43 l1 x17_1).f1), .int .i64 0]) ?_ 2 _ rfl; (with_reducible repeat (first | refine blk_drewN ?_ _ | refine blk_drew ?_ | refine blk_alloc ?_ _)); refine blk_put (cs := #[.int .i64 ((rd_T43 l1 x17_1).f0), .int .i64 0, .int .i64 0]) ?_ 1 _ rfl; (with_reducible repeat (first | refine blk_drewN ?_ _ | refine blk_drew ?_ | refine blk_alloc ?_ _)); refine blk_put (cs := #[.int .i64 0, .int .i64 0, .int .i64 0]) ?_ 0 _ rfl; (with_reducible repeat (first | refine blk_drewN ?_ _ | refine blk_drew ?_ | refine blk_alloc ?_ _)); exact BK284.out) hb); replace HB := Aside0.mk (below_step (by repeat (first | (with_reducible first | exact HB.out | apply bU | apply bS GE282.out | apply bS GE284.out) | exact HB.out)) hb); (try clear hb); (try clear hb2); (try clear hk); (try clear hi)))
         go_roundg k1
         case measure => have := HK1.out; omega
         case rel => exact ⟨(wrap64 (x17_1 + 1)), (by first | rfl | (simp; done) | (simp [*]; done)), H', ⟨by have := HK1.out; omega⟩, ⟨by repeat (first | (with_reducible first | exact HB.out | apply bU | apply bS GE282.out | apply bS GE284.out) | exact HB.out)⟩⟩
        ·replace c10 := Bool.eq_false_iff.mpr c10
         subst c10
         have H1 : (some false) = some r := by rw [if_neg (show ¬ (false = true) by decide)] at H; exact H
         clear H
         have H := H1
         clear H1
         obtain rfl := Option.some.inj H
         have p281 : 0 ≤ (x17_1 : Int) := of_decide_eq_true (by first | (with_reducible assumption) | assumption)
         have q281 : x17_1 < (l0.length : Int) := of_decide_eq_true (by first | (with_reducible assumption) | assumption)
         obtain ⟨ad281, e281, hx281_0, hx281_1, hx281_2⟩ := at_T43 HR0.out x17_1 p281 q281
         cases e281
         replace hx281_0 := (HB.out.cell (World.block_lt_of_cell? w _ hx281_0)).trans hx281_0
         replace hx281_1 := (HB.out.cell (World.block_lt_of_cell? w _ hx281_1)).trans hx281_1
         replace hx281_2 := (HB.out.cell (World.block_lt_of_cell? w _ hx281_2)).trans hx281_2
         replace p281 := eq_true p281
         replace q281 := eq_true q281
         go_wp2_with (first | ((with_reducible refine gate_dst (N := 8) rfl ?_); refine bx_ 8 #[.int .i64 0, .int .i64 0, .int .i64 0] 43 rfl rfl ?hr ?_; (case hr => go_simp; try rfl); intro gb282 hg w18 hbox hb; have BK282 := Aside0.mk (hbox); have GW282 := gs_ HB hg; have GE282 := gs_ HB hg; replace HB := bs_ HB hb; clear hb hbox hg; obtain ⟨hcz19_0, hcz19_1, hcz19_2, hfz19_0, hfz19_1, hfz19_2⟩ := c3_ BK282; have p283 : 0 ≤ (x17_1 : Int) := of_decide_eq_true (by first | (with_reducible assumption) | assumption); have q283 : x17_1 < (l1.length : Int) := of_decide_eq_true (by first | (with_reducible assumption) | assumption); obtain ⟨ad283, e283, hx283_0, hx283_1, hx283_2⟩ := at_T43 HR1.out x17_1 p283 q283; cases e283; have hn283_0 : ad283.block ≠ gb282 := Nat.ne_of_lt (Nat.lt_of_lt_of_le (by have := World.block_lt_of_cell? _ _ hx283_0; first | rwa [add_block] at this | exact this) GW282.out); have hn283_1 : ad283.block ≠ gb282 := Nat.ne_of_lt (Nat.lt_of_lt_of_le (by have := World.block_lt_of_cell? _ _ hx283_0; first | rwa [add_block] at this | exact this) GW282.out); have hn283_2 : ad283.block ≠ gb282 := Nat.ne_of_lt (Nat.lt_of_lt_of_le (by have := World.block_lt_of_cell? _ _ hx283_0; first | rwa [add_block] at this | exact this) GW282.out); replace hx283_0 := (HB.out.cell (World.block_lt_of_cell? w _ hx283_0)).trans hx283_0; replace hx283_1 := (HB.out.cell (World.block_lt_of_cell? w _ hx283_1)).trans hx283_1; replace hx283_2 := (HB.out.cell (World.block_lt_of_cell? w _ hx283_2)).trans hx283_2; replace hx283_0 := (cell_far (p := ⟨gb282, 0, none⟩) (by first | (rw [add_block]; exact hn283_0) | (show (Addr.add _ _).block ≠ _; rw [add_block]; exact hn283_0) | exact hn283_0) (.int .i64 ((rd_T43 l0 x17_1).f0))).trans hx283_0; replace hx283_1 := (cell_far (p := ⟨gb282, 0, none⟩) (by first | (rw [add_block]; exact hn283_0) | (show (Addr.add _ _).block ≠ _; rw [add_block]; exact hn283_0) | exact hn283_0) (.int .i64 ((rd_T43 l0 x17_1).f0))).trans hx283_1; replace hx283_2 := (cell_far (p := ⟨gb282, 0, none⟩) (by first | (rw [add_block]; exact hn283_0) | (show (Addr.add _ _).block ≠ _; rw [add_block]; exact hn283_0) | exact hn283_0) (.int .i64 ((rd_T43 l0 x17_1).f0))).trans hx283_2; replace hx283_0 := (cell_far (p := ⟨gb282, 1, none⟩) (by first | (rw [add_block]; exact hn283_1) | (show (Addr.add _ _).block ≠ _; rw [add_block]; exact hn283_1) | exact hn283_1) (.int .i64 ((rd_T43 l0 x17_1).f1))).trans hx283_0; replace hx283_1 := (cell_far (p := ⟨gb282, 1, none⟩) (by first | (rw [add_block]; exact hn283_1) | (show (Addr.add _ _).block ≠ _; rw [add_block]; exact hn283_1) | exact hn283_1) (.int .i64 ((rd_T43 l0 x17_1).f1))).trans hx283_1; replace hx283_2 := (cell_far (p := ⟨gb282, 1, none⟩) (by first | (rw [add_block]; exact hn283_1) | (show (Addr.add _ _).block ≠ _; rw [add_block]; exact hn283_1) | exact hn283_1) (.int .i64 ((rd_T43 l0 x17_1).f1))).trans hx283_2; replace hx283_0 := (cell_far (p := ⟨gb282, 2, none⟩) (by first | (rw [add_block]; exact hn283_2) | (show (Addr.add _ _).block ≠ _; rw [add_block]; exact hn283_2) | exact hn283_2) (.int .i64 ((rd_T43 l0 x17_1).f2))).trans hx283_0; replace hx283_1 := (cell_far (p := ⟨gb282, 2, none⟩) (by first | (rw [add_block]; exact hn283_2) | (show (Addr.add _ _).block ≠ _; rw [add_block]; exact hn283_2) | exact hn283_2) (.int .i64 ((rd_T43 l0 x17_1).f2))).trans hx283_1; replace hx283_2 := (cell_far (p := ⟨gb282, 2, none⟩) (by first | (rw [add_block]; exact hn283_2) | (show (Addr.add _ _).block ≠ _; rw [add_block]; exact hn283_2) | exact hn283_2) (.int .i64 ((rd_T43 l0 x17_1).f2))).trans hx283_2; clear hn283_0; clear hn283_1; clear hn283_2; replace p283 := eq_true p283; replace q283 := eq_true q283) | ((with_reducible refine gate_dst (N := 9) rfl ?_); refine bx_ 9 #[.int .i64 0, .int .i64 0, .int .i64 0] 43 rfl rfl ?hr ?_; (case hr => go_simp; try rfl); intro gb284 hg w20 hbox hb; have BK284 := Aside0.mk (hbox); have GW284 := Aside0.mk ((by rw [hg]; exact (below_size (by repeat (first | (with_reducible first | exact HB.out | apply bU | apply bS GE282.out) | exact HB.out))) : w.heap.size ≤ gb284)); have GE284 := Aside0.mk ((by rw [hg]; exact (below_size (by repeat (first | (with_reducible first | exact HB.out | apply bU | apply bS GE282.out) | exact HB.out))) : w.heap.size ≤ gb284)); have NB282_284 := Aside0.mk ((by rw [hg]; exact Nat.ne_of_lt (blk_lt (g := gb282) (o := .cells #[.int .i64 ((rd_T43 l0 x17_1).f0), .int .i64 ((rd_T43 l0 x17_1).f1), .int .i64 ((rd_T43 l0 x17_1).f2)] 43 (0, 0)) (by (with_reducible repeat (first | refine blk_drewN ?_ _ | refine blk_drew ?_ | refine blk_alloc ?_ _)); refine blk_put (cs := #[.int .i64 ((rd_T43 l0 x17_1).f0), .int .i64 ((rd_T43 l0 x17_1).f1), .int .i64 0]) ?_ 2 _ rfl; (with_reducible repeat (first | refine blk_drewN ?_ _ | refine blk_drew ?_ | refine blk_alloc ?_ _)); refine blk_put (cs := #[.int .i64 ((rd_T43 l0 x17_1).f0), .int .i64 0, .int .i64 0]) ?_ 1 _ rfl; (with_reducible repeat (first | refine blk_drewN ?_ _ | refine blk_drew ?_ | refine blk_alloc ?_ _)); refine blk_put (cs := #[.int .i64 0, .int .i64 0, .int .i64 0]) ?_ 0 _ rfl; (with_reducible repeat (first | refine blk_drewN ?_ _ | refine blk_drew ?_ | refine blk_alloc ?_ _)); exact BK282.out)) : gb282 ≠ gb284)); have NB284_282 := Aside0.mk ((by rw [hg]; exact Nat.ne_of_gt (blk_lt (g := gb282) (o := .cells #[.int .i64 ((rd_T43 l0 x17_1).f0), .int .i64 ((rd_T43 l0 x17_1).f1), .int .i64 ((rd_T43 l0 x17_1).f2)] 43 (0, 0)) (by (with_reducible repeat (first | refine blk_drewN ?_ _ | refine blk_drew ?_ | refine blk_alloc ?_ _)); refine blk_put (cs := #[.int .i64 ((rd_T43 l0 x17_1).f0), .int .i64 ((rd_T43 l0 x17_1).f1), .int .i64 0]) ?_ 2 _ rfl; (with_reducible repeat (first | refine blk_drewN ?_ _ | refine blk_drew ?_ | refine blk_alloc ?_ _)); refine blk_put (cs := #[.int .i64 ((rd_T43 l0 x17_1).f0), .int .i64 0, .int .i64 0]) ?_ 1 _ rfl; (with_reducible repeat (first | refine blk_drewN ?_ _ | refine blk_drew ?_ | refine blk_alloc ?_ _)); refine blk_put (cs := #[.int .i64 0, .int .i64 0, .int .i64 0]) ?_ 0 _ rfl; (with_reducible repeat (first | refine blk_drewN ?_ _ | refine blk_drew ?_ | refine blk_alloc ?_ _)); exact BK282.out)) : gb284 ≠ gb282)); replace BK282 := Aside0.mk (blk_below (g := gb282) (o := .cells #[.int .i64 ((rd_T43 l0 x17_1).f0), .int .i64 ((rd_T43 l0 x17_1).f1), .int .i64 ((rd_T43 l0 x17_1).f2)] 43 (0, 0)) (by (with_reducible repeat (first | refine blk_drewN ?_ _ | refine blk_drew ?_ | refine blk_alloc ?_ _)); refine blk_put (cs := #[.int .i64 ((rd_T43 l0 x17_1).f0), .int .i64 ((rd_T43 l0 x17_1).f1), .int .i64 0]) ?_ 2 _ rfl; (with_reducible repeat (first | refine blk_drewN ?_ _ | refine blk_drew ?_ | refine blk_alloc ?_ _)); refine blk_put (cs := #[.int .i64 ((rd_T43 l0 x17_1).f0), .int .i64 0, .int .i64 0]) ?_ 1 _ rfl; (with_reducible repeat (first | refine blk_drewN ?_ _ | refine blk_drew ?_ | refine blk_alloc ?_ _)); refine blk_put (cs := #[.int .i64 0, .int .i64 0, .int .i64 0]) ?_ 0 _ rfl; (with_reducible repeat (first | refine blk_drewN ?_ _ | refine blk_drew ?_ | refine blk_alloc ?_ _)); exact BK282.out) hb); replace HB := Aside0.mk (below_step (by repeat (first | (with_reducible first | exact HB.out | apply bU | apply bS GE282.out) | exact HB.out)) hb); clear hb hbox hg; have hnb21 := NB284_282.out; have hnc21 := NB282_284.out; obtain ⟨hcz22_0, hcz22_1, hcz22_2, hfz22_0, hfz22_1, hfz22_2⟩ := c3_ BK284; obtain ⟨hcz23_0, hcz23_1, hcz23_2, hfz23_0, hfz23_1, hfz23_2⟩ := c3_ BK282) | ((with_reducible refine gate_tmp (s := 26) rfl ?_); refine goesT_ (some 29) rfl rfl Try.func49 (by kernel_rfl) rfl #[.agg #[.int .i64 ((rd_T43 l0 x17_1).f0), .int .i64 ((rd_T43 l0 x17_1).f1), .int .i64 ((rd_T43 l0 x17_1).f2)], .agg #[.int .i64 ((rd_T43 l1 x17_1).f0), .int .i64 ((rd_T43 l1 x17_1).f1), .int .i64 ((rd_T43 l1 x17_1).f2)]] rfl rfl (by (try simp only [List.map_toArray, List.map_cons, List.map_nil]); first | done | rfl | (simp only [List.length_drop, List.length_take]; rfl)) ?_; (with_reducible refine (lsa_Same_1.calls ((rd_T43 l0 x17_1).f0) ((rd_T43 l0 x17_1).f1) ((rd_T43 l0 x17_1).f2) ((rd_T43 l1 x17_1).f0) ((rd_T43 l1 x17_1).f1) ((rd_T43 l1 x17_1).f2) false _ A9.out).mono ?_); rintro e w24 ⟨rfl, hb⟩; refine ⟨_, rfl, ?_⟩; replace BK282 := Aside0.mk (blk_below (g := gb282) (o := .cells #[.int .i64 ((rd_T43 l0 x17_1).f0), .int .i64 ((rd_T43 l0 x17_1).f1), .int .i64 ((rd_T43 l0 x17_1).f2)] 43 (0, 0)) (by (with_reducible repeat (first | refine blk_drewN ?_ _ | refine blk_drew ?_ | refine blk_alloc ?_ _)); refine blk_far ?_ NB282_284.out _; (with_reducible repeat (first | refine blk_drewN ?_ _ | refine blk_drew ?_ | refine blk_alloc ?_ _)); refine blk_far ?_ NB282_284.out _; (with_reducible repeat (first | refine blk_drewN ?_ _ | refine blk_drew ?_ | refine blk_alloc ?_ _)); refine blk_far ?_ NB282_284.out _; (with_reducible repeat (first | refine blk_drewN ?_ _ | refine blk_drew ?_ | refine blk_alloc ?_ _)); exact BK282.out) hb); replace BK284 := Aside0.mk (blk_below (g := gb284) (o := .cells #[.int .i64 ((rd_T43 l1 x17_1).f0), .int .i64 ((rd_T43 l1 x17_1).f1), .int .i64 ((rd_T43 l1 x17_1).f2)] 43 (0, 0)) (by (with_reducible repeat (first | refine blk_drewN ?_ _ | refine blk_drew ?_ | refine blk_alloc ?_ _)); refine blk_put (cs := #[.int .i64 ((rd_T43 l1 x17_1).f0), .int .i64 ((rd_T43 l1 x17_1).f1), .int .i64 0]) ?_ 2 _ rfl; (with_reducible repeat (first | refine blk_drewN ?_ _ | refine blk_drew ?_ | refine blk_alloc ?_ _)); refine blk_put (cs := #[.int .i64 ((rd_T43 l1 x17_1).f0), .int .i64 0, .int .i64 0]) ?_ 1 _ rfl; (with_reducible repeat (first | refine blk_drewN ?_ _ | refine blk_drew ?_ | refine blk_alloc ?_ _)); refine blk_put (cs := #[.int .i64 0, .int .i64 0, .int .i64 0]) ?_ 0 _ rfl; (with_reducible repeat (first | refine blk_drewN ?_ _ | refine blk_drew ?_ | refine blk_alloc ?_ _)); exact BK284.out) hb); replace HB := Aside0.mk (below_step (by repeat (first | (with_reducible first | exact HB.out | apply bU | apply bS GE282.out | apply bS GE284.out) | exact HB.out)) hb); (try clear hb); (try clear hb2); (try clear hk); (try clear hi)))
         go_ret
         exact ⟨by first | rfl | (simp [errW_none, errW_some] <;> rfl) | (simp [*, errW_none, errW_some] <;> rfl), by repeat (first | (with_reducible first | exact HB.out | apply bU | apply bS GE282.out | apply bS GE284.out) | exact HB.out)⟩
       ·rw [if_neg c8] at H
        exact absurd H (by simp)
      ·rw [if_neg c7] at H
       exact absurd H (by simp)
     ·rw [if_neg c6] at H
      exact absurd H (by simp)
    ·rw [if_neg c5] at H
     have c5b0 : decide (x17_1 < (l0.length : Int)) = false := decide_eq_false c5
     clear c5
     obtain rfl := Option.some.inj H
     go_wp2
     go_ret
     exact ⟨by first | rfl | (simp [errW_none, errW_some] <;> rfl) | (simp [*, errW_none, errW_some] <;> rfl), kw_ HB⟩
 ·rw [if_neg c4] at H
  have c4b0 : ((l0.length : Int) == (l1.length : Int)) = false := beq_eq_false_iff_ne.mpr c4
  have c4b1 : ((l0.length : Int) != (l1.length : Int)) = true := bne_iff_ne.mpr c4
  have c4b2 : (l0.length == l1.length) = false := by first | simpa using c4 | (simp at c4 ⊢; omega)
  obtain rfl := Option.some.inj H
  go_enter Try.func51, Try.ntmps51
  go_wp2
  go_ret
  exact ⟨by first | rfl | (simp [errW_none, errW_some] <;> rfl) | (simp [*, errW_none, errW_some] <;> rfl), kw_ HB⟩

/-! ### lsa_Same_2: function 50 -/
def lsa_Same_2.f (a0_0 : Int) (a0_1 : Int) (a1_0 : Int) (a1_1 : Int) : Option (Bool) := some (a0_0 == a1_0 && (a0_1 == a1_1))
set_option maxHeartbeats 8000000 in
set_option maxRecDepth 100000 in
theorem lsa_Same_2.calls (a0_0 : Int) (a0_1 : Int) (a1_0 : Int) (a1_1 : Int) (r : Bool) (w : World) (h : lsa_Same_2.f a0_0 a0_1 a1_0 a1_1 = some r) :
  Calls Try.prog 50 #[.agg #[.int .u32 a0_0, .int .i64 a0_1], .agg #[.int .u32 a1_0, .int .i64 a1_1]] w fun e w' => e = .returned (.bool r) ∧ Below w.heap.size w w' := by
 have hu56 := Try.underlying56
 have HB := Aside0.mk (Below.refl w.heap.size w)
 have H : (some (a0_0 == a1_0 && (a0_1 == a1_1))) = some r := h
 clear h
 obtain rfl := Option.some.inj H
 go_enter Try.func50, Try.ntmps50
 go_wp2_with (first | ((with_reducible refine gate_dst (N := 2) rfl ?_); refine bx_ 2 #[.int .u32 a0_0, .int .i64 a0_1] 56 rfl rfl ?hr ?_; (case hr => go_simp; try rfl); intro gb286 hg w3 hbox hb; have BK286 := Aside0.mk (hbox); have GW286 := gs_ HB hg; have GE286 := gs_ HB hg; replace HB := bs_ HB hb; clear hb hbox hg) | ((with_reducible refine gate_dst (N := 3) rfl ?_); refine bx_ 3 #[.int .u32 a1_0, .int .i64 a1_1] 56 rfl rfl ?hr ?_; (case hr => go_simp; try rfl); intro gb287 hg w4 hbox hb; have BK287 := Aside0.mk (hbox); have GW287 := Aside0.mk ((by rw [hg]; exact (below_size (by repeat (first | (with_reducible first | exact HB.out | apply bU | apply bS GE286.out) | exact HB.out))) : w.heap.size ≤ gb287)); have GE287 := Aside0.mk ((by rw [hg]; exact (below_size (by repeat (first | (with_reducible first | exact HB.out | apply bU | apply bS GE286.out) | exact HB.out))) : w.heap.size ≤ gb287)); have NB286_287 := nl_ BK286 hg; have NB287_286 := ng_ BK286 hg; replace BK286 := bb_ BK286 hb; replace HB := Aside0.mk (below_step (by repeat (first | (with_reducible first | exact HB.out | apply bU | apply bS GE286.out) | exact HB.out)) hb); clear hb hbox hg; have hnb5 := NB286_287.out; have hnc5 := NB287_286.out; obtain ⟨hcz6_0, hcz6_1, hfz6_0, hfz6_1⟩ := c2_ BK286; obtain ⟨hcz7_0, hcz7_1, hfz7_0, hfz7_1⟩ := c2_ BK287))
 go_ret
 exact ⟨by first | rfl | (simp [errW_none, errW_some] <;> rfl) | (simp [*, errW_none, errW_some] <;> rfl), by repeat (first | (with_reducible first | exact HB.out | apply bU | apply bS GE286.out | apply bS GE287.out) | exact HB.out)⟩

/-! ### api_Prefix: function 52 -/
def api_Prefix.l0 : Nat → List (S56) → List (S56) → Int → Int → Option (Bool)
 | 0, _, _, _, _ => none
 | k + 1, x1, x15, x16, x17 => if x17 < x16 then (if 0 ≤ x17 then (if x17 < (x15.length : Int) then (if x17 < (x1.length : Int) then ((lsa_Same_2.f ((rd_T56 x15 x17).f0) ((rd_T56 x15 x17).f1) ((rd_T56 x1 x17).f0) ((rd_T56 x1 x17).f1)).bind fun t292 => (if t292 = true then (api_Prefix.l0 k x1 x15 x16 (wrap64 (x17 + 1))) else (some false))) else (none)) else (none)) else (none)) else (some true)
def api_Prefix.f (k : Nat) (l0 : List (S56)) (l1 : List (S56))  : Option (Bool) := if (l0.length : Int) = (l1.length : Int) then (api_Prefix.l0 k l1 l0 (l0.length : Int) 0) else (some false)
theorem api_Prefix.mono_l : ∀ k, (∀ y0 y1 y2 y3, LeO (api_Prefix.l0 k y0 y1 y2 y3) (api_Prefix.l0 (k + 1) y0 y1 y2 y3))
 | 0 => fun _ _ _ _ r h => by simp [api_Prefix.l0] at h
 | k + 1 => by
  have ih0 := api_Prefix.mono_l k
  ·intro y0 y1 y2 y3
   unfold api_Prefix.l0
   repeat' first
   | (with_reducible exact ih0 _ _ _ _)
   | (with_reducible exact LeO.refl _)
   | (with_reducible exact LeO.none _)
   | (with_reducible refine LeO.ite ?_ ?_)
   | (with_reducible refine LeO.bind ?_ (fun _ => ?_))
   | exact ih0 _ _ _ _
   | exact LeO.none _
   | refine LeO.ite ?_ ?_
   | refine LeO.bind ?_ (fun _ => ?_)
theorem api_Prefix.mono : ∀ a0 a1 k, LeO (api_Prefix.f k a0 a1) (api_Prefix.f (k + 1) a0 a1) := by
 intro a0 a1 k
 have ih0 := api_Prefix.mono_l k
 unfold api_Prefix.f
 repeat' first
   | (with_reducible exact ih0 _ _ _ _)
   | (with_reducible exact LeO.refl _)
   | (with_reducible exact LeO.none _)
   | (with_reducible refine LeO.ite ?_ ?_)
   | (with_reducible refine LeO.bind ?_ (fun _ => ?_))
   | exact ih0 _ _ _ _
   | exact LeO.none _
   | refine LeO.ite ?_ ?_
   | refine LeO.bind ?_ (fun _ => ?_)
set_option maxHeartbeats 8000000 in
set_option maxRecDepth 100000 in
theorem api_Prefix.calls (k : Nat) (A0 : Option Addr) (c0 : Nat) (l0 : List (S56)) (A1 : Option Addr) (c1 : Nat) (l1 : List (S56))  (r : Bool) (w : World) (hr0 : Kd.C k56 w A0 l0.length l0) (hc0 : l0.length ≤ c0) (hr1 : Kd.C k56 w A1 l1.length l1) (hc1 : l1.length ≤ c1) (h : api_Prefix.f k l0 l1 = some r) :
  Calls Try.prog 52 #[.slice A0 l0.length c0, .slice A1 l1.length c1, .func (.func 50) #[] #[]] w fun e w' => e = .returned (.bool r) ∧ Below w.heap.size w w' := by
 have hu56 := Try.underlying56
 have HR0 := Aside0.mk hr0
 have HC0 := Aside0.mk hc0
 clear hr0 hc0
 have HR1 := Aside0.mk hr1
 have HC1 := Aside0.mk hc1
 clear hr1 hc1
 have HB := Aside0.mk (Below.refl w.heap.size w)
 have H : (if (l0.length : Int) = (l1.length : Int) then (api_Prefix.l0 k l1 l0 (l0.length : Int) 0) else (some false)) = some r := h
 clear h
 by_cases c4 : (l0.length : Int) = (l1.length : Int)
 ·rw [if_pos c4] at H
  have c4b0 : ((l0.length : Int) == (l1.length : Int)) = true := beq_iff_eq.mpr c4
  have c4b1 : ((l0.length : Int) != (l1.length : Int)) = false := bne_eq_false_iff_eq.mpr c4
  have c4b2 : (l0.length == l1.length) = true := by first | simpa using c4 | (simp at c4 ⊢; omega)
  clear c4
  have H' := Aside0.mk H
  clear H
  go_enter Try.func52, Try.ntmps52
  go_wp2
  go_loopg [17] k (fun kq v17 w' => ∃ (x17_1 : Int), v17 = .int .i64 x17_1 ∧ Aside0 (api_Prefix.l0 kq l1 l0 (l0.length : Int) x17_1 = some r) ∧ Aside0 (kq ≤ k) ∧ Aside0 (Below w.heap.size w w'))
  case atStart => exact ⟨(0), (by first | rfl | (simp; done) | (simp [*]; done)), H', ⟨Nat.le_refl _⟩, ⟨kw_ HB⟩⟩
  case round =>
   clear H'
   (try clear c1); (try clear c4); (try clear c4b0); (try clear c4b1); (try clear c4b2)
   obtain ⟨x17_1, rfl, HA, HK1, HB⟩ := hrel
   cases gk with
   | zero => exact absurd HA.out (by simp [api_Prefix.l0])
   | succ k1 =>
    have H := HA.out
    clear HA
    simp only [api_Prefix.l0] at H
    by_cases c5 : x17_1 < (l0.length : Int)
    ·rw [if_pos c5] at H
     have c5b0 : decide (x17_1 < (l0.length : Int)) = true := decide_eq_true c5
     clear c5
     by_cases c6 : 0 ≤ x17_1
     ·rw [if_pos c6] at H
      have c6b0 : decide (0 ≤ x17_1) = true := decide_eq_true c6
      clear c6
      by_cases c7 : x17_1 < (l0.length : Int)
      ·rw [if_pos c7] at H
       have c7b0 : decide (x17_1 < (l0.length : Int)) = true := decide_eq_true c7
       clear c7
       by_cases c8 : x17_1 < (l1.length : Int)
       ·rw [if_pos c8] at H
        have c8b0 : decide (x17_1 < (l1.length : Int)) = true := decide_eq_true c8
        clear c8
        replace H := Option.bind_eq_some_iff.mp H
        obtain ⟨t292, A90, H⟩ := H
        replace H : (if t292 = true then (api_Prefix.l0 k1 l1 l0 (l0.length : Int) (wrap64 (x17_1 + 1))) else (some false)) = some r := H
        have A9 := Aside0.mk A90
        clear A90
        by_cases c10 : t292 = true
        ·subst c10
         have H1 : (api_Prefix.l0 k1 l1 l0 (l0.length : Int) (wrap64 (x17_1 + 1))) = some r := by rw [if_pos rfl] at H; exact H
         clear H
         have H := H1
         clear H1
         have H' := Aside0.mk H
         clear H
         have p288 : 0 ≤ (x17_1 : Int) := of_decide_eq_true (by first | (with_reducible assumption) | assumption)
         have q288 : x17_1 < (l0.length : Int) := of_decide_eq_true (by first | (with_reducible assumption) | assumption)
         obtain ⟨ad288, e288, hx288_0, hx288_1⟩ := at_T56 HR0.out x17_1 p288 q288
         cases e288
         replace hx288_0 := (HB.out.cell (World.block_lt_of_cell? w _ hx288_0)).trans hx288_0
         replace hx288_1 := (HB.out.cell (World.block_lt_of_cell? w _ hx288_1)).trans hx288_1
         replace p288 := eq_true p288
         replace q288 := eq_true q288
         go_wp2_with (first | ((with_reducible refine gate_dst (N := 8) rfl ?_); refine bx_ 8 #[.int .u32 0, .int .i64 0] 56 rfl rfl ?hr ?_; (case hr => go_simp; try rfl); intro gb289 hg w11 hbox hb; have BK289 := Aside0.mk (hbox); have GW289 := gs_ HB hg; have GE289 := gs_ HB hg; replace HB := bs_ HB hb; clear hb hbox hg; obtain ⟨hcz12_0, hcz12_1, hfz12_0, hfz12_1⟩ := c2_ BK289; have p290 : 0 ≤ (x17_1 : Int) := of_decide_eq_true (by first | (with_reducible assumption) | assumption); have q290 : x17_1 < (l1.length : Int) := of_decide_eq_true (by first | (with_reducible assumption) | assumption); obtain ⟨ad290, e290, hx290_0, hx290_1⟩ := at_T56 HR1.out x17_1 p290 q290; cases e290; have hn290_0 : ad290.block ≠ gb289 := Nat.ne_of_lt (Nat.lt_of_lt_of_le (by have := World.block_lt_of_cell? _ _ hx290_0; first | rwa [add_block] at this | exact this) GW289.out); have hn290_1 : ad290.block ≠ gb289 := Nat.ne_of_lt (Nat.lt_of_lt_of_le (by have := World.block_lt_of_cell? _ _ hx290_0; first | rwa [add_block] at this | exact this) GW289.out); replace hx290_0 := (HB.out.cell (World.block_lt_of_cell? w _ hx290_0)).trans hx290_0; replace hx290_1 := (HB.out.cell (World.block_lt_of_cell? w _ hx290_1)).trans hx290_1; replace hx290_0 := (cell_far (p := ⟨gb289, 0, none⟩) (by first | (rw [add_block]; exact hn290_0) | (show (Addr.add _ _).block ≠ _; rw [add_block]; exact hn290_0) | exact hn290_0) (.int .u32 ((rd_T56 l0 x17_1).f0))).trans hx290_0; replace hx290_1 := (cell_far (p := ⟨gb289, 0, none⟩) (by first | (rw [add_block]; exact hn290_0) | (show (Addr.add _ _).block ≠ _; rw [add_block]; exact hn290_0) | exact hn290_0) (.int .u32 ((rd_T56 l0 x17_1).f0))).trans hx290_1; replace hx290_0 := (cell_far (p := ⟨gb289, 1, none⟩) (by first | (rw [add_block]; exact hn290_1) | (show (Addr.add _ _).block ≠ _; rw [add_block]; exact hn290_1) | exact hn290_1) (.int .i64 ((rd_T56 l0 x17_1).f1))).trans hx290_0; replace hx290_1 := (cell_far (p := ⟨gb289, 1, none⟩) (by first | (rw [add_block]; exact hn290_1) | (show (Addr.add _ _).block ≠ _; rw [add_block]; exact hn290_1) | exact hn290_1) (.int .i64 ((rd_T56 l0 x17_1).f1))).trans hx290_1; clear hn290_0; clear hn290_1; replace p290 := eq_true p290; replace q290 := eq_true q290) | ((with_reducible refine gate_dst (N := 9) rfl ?_); refine bx_ 9 #[.int .u32 0, .int .i64 0] 56 rfl rfl ?hr ?_; (case hr => go_simp; try rfl); intro gb291 hg w13 hbox hb; have BK291 := Aside0.mk (hbox); have GW291 := Aside0.mk ((by rw [hg]; exact (below_size (by repeat (first | (with_reducible first | exact HB.out | apply bU | apply bS GE289.out) | exact HB.out))) : w.heap.size ≤ gb291)); have GE291 := Aside0.mk ((by rw [hg]; exact (below_size (by repeat (first | (with_reducible first | exact HB.out | apply bU | apply bS GE289.out) | exact HB.out))) : w.heap.size ≤ gb291)); have NB289_291 := Aside0.mk ((by rw [hg]; exact Nat.ne_of_lt (blk_lt (g := gb289) (o := .cells #[.int .u32 ((rd_T56 l0 x17_1).f0), .int .i64 ((rd_T56 l0 x17_1).f1)] 56 (0, 0)) (by (with_reducible repeat (first | refine blk_drewN ?_ _ | refine blk_drew ?_ | refine blk_alloc ?_ _)); refine blk_put (cs := #[.int .u32 ((rd_T56 l0 x17_1).f0), .int .i64 0]) ?_ 1 _ rfl; (with_reducible repeat (first | refine blk_drewN ?_ _ | refine blk_drew ?_ | refine blk_alloc ?_ _)); refine blk_put (cs := #[.int .u32 0, .int .i64 0]) ?_ 0 _ rfl; (with_reducible repeat (first | refine blk_drewN ?_ _ | refine blk_drew ?_ | refine blk_alloc ?_ _)); exact BK289.out)) : gb289 ≠ gb291)); have NB291_289 := Aside0.mk ((by rw [hg]; exact Nat.ne_of_gt (blk_lt (g := gb289) (o := .cells #[.int .u32 ((rd_T56 l0 x17_1).f0), .int .i64 ((rd_T56 l0 x17_1).f1)] 56 (0, 0)) (by (with_reducible repeat (first | refine blk_drewN ?_ _ | refine blk_drew ?_ | refine blk_alloc ?_ _)); refine blk_put (cs := #[.int .u32 ((rd_T56 l0 x17_1).f0), .int .i64 0]) ?_ 1 _ rfl; (with_reducible repeat (first | refine blk_drewN ?_ _ | refine blk_drew ?_ | refine blk_alloc ?_ _)); refine blk_put (cs := #[.int .u32 0, .int .i64 0]) ?_ 0 _ rfl; (with_reducible repeat (first | refine blk_drewN ?_ _ | refine blk_drew ?_ | refine blk_alloc ?_ _)); exact BK289.out)) : gb291 ≠ gb289)); replace BK289 := Aside0.mk (blk_below (g := gb289) (o := .cells #[.int .u32 ((rd_T56 l0 x17_1).f0), .int .i64 ((rd_T56 l0 x17_1).f1)] 56 (0, 0)) (by (with_reducible repeat (first | refine blk_drewN ?_ _ | refine blk_drew ?_ | refine blk_alloc ?_ _)); refine blk_put (cs := #[.int .u32 ((rd_T56 l0 x17_1).f0), .int .i64 0]) ?_ 1 _ rfl; (with_reducible repeat (first | refine blk_drewN ?_ _ | refine blk_drew ?_ | refine blk_alloc ?_ _)); refine blk_put (cs := #[.int .u32 0, .int .i64 0]) ?_ 0 _ rfl; (with_reducible repeat (first | refine blk_drewN ?_ _ | refine blk_drew ?_ | refine blk_alloc ?_ _)); exact BK289.out) hb); replace HB := Aside0.mk (below_step (by repeat (first | (with_reducible first | exact HB.out | apply bU | apply bS GE289.out) | exact HB.out)) hb); clear hb hbox hg; have hnb14 := NB291_289.out; have hnc14 := NB289_291.out; obtain ⟨hcz15_0, hcz15_1, hfz15_0, hfz15_1⟩ := c2_ BK291; obtain ⟨hcz16_0, hcz16_1, hfz16_0, hfz16_1⟩ := c2_ BK289) | ((with_reducible refine gate_tmp (s := 26) rfl ?_); refine goesT_ (some 29) rfl rfl Try.func50 (by kernel_rfl) rfl #[.agg #[.int .u32 ((rd_T56 l0 x17_1).f0), .int .i64 ((rd_T56 l0 x17_1).f1)], .agg #[.int .u32 ((rd_T56 l1 x17_1).f0), .int .i64 ((rd_T56 l1 x17_1).f1)]] rfl rfl (by (try simp only [List.map_toArray, List.map_cons, List.map_nil]); first | done | rfl | (simp only [List.length_drop, List.length_take]; rfl)) ?_; (with_reducible refine (lsa_Same_2.calls ((rd_T56 l0 x17_1).f0) ((rd_T56 l0 x17_1).f1) ((rd_T56 l1 x17_1).f0) ((rd_T56 l1 x17_1).f1) true _ A9.out).mono ?_); rintro e w17 ⟨rfl, hb⟩; refine ⟨_, rfl, ?_⟩; replace BK289 := Aside0.mk (blk_below (g := gb289) (o := .cells #[.int .u32 ((rd_T56 l0 x17_1).f0), .int .i64 ((rd_T56 l0 x17_1).f1)] 56 (0, 0)) (by (with_reducible repeat (first | refine blk_drewN ?_ _ | refine blk_drew ?_ | refine blk_alloc ?_ _)); refine blk_far ?_ NB289_291.out _; (with_reducible repeat (first | refine blk_drewN ?_ _ | refine blk_drew ?_ | refine blk_alloc ?_ _)); refine blk_far ?_ NB289_291.out _; (with_reducible repeat (first | refine blk_drewN ?_ _ | refine blk_drew ?_ | refine blk_alloc ?_ _)); exact BK289.out) hb); replace BK291 := Aside0.mk (blk_below (g := gb291) (o := .cells #[.int .u32 ((rd_T56 l1 x17_1).f0), .int .i64 ((rd_T56 l1 x17_1).f1)] 56 (0, 0)) (by (with_reducible repeat (first | refine blk_drewN ?_ _ | refine blk_drew ?_ | refine blk_alloc ?_ _)); refine blk_put (cs := #[.int .u32 ((rd_T56 l1 x17_1).f0), .int .i64 0]) ?_ 1 _ rfl; (with_reducible repeat (first | refine blk_drewN ?_ _ | refine blk_drew ?_ | refine blk_alloc ?_ _)); refine blk_put (cs := #[.int .u32 0, .int .i64 0]) ?_ 0 _ rfl; (with_reducible repeat (first | refine blk_drewN ?_ _ | refine blk_drew ?_ | refine blk_alloc ?_ _)); exact BK291.out) hb); replace HB := Aside0.mk (below_step (by repeat (first | (with_reducible first | exact HB.out | apply bU | apply bS GE289.out | apply bS GE291.out) | exact HB.out)) hb); (try clear hb); (try clear hb2); (try clear hk); (try clear hi)))
         go_roundg k1
         case measure => have := HK1.out; omega
         case rel => exact ⟨(wrap64 (x17_1 + 1)), (by first | rfl | (simp; done) | (simp [*]; done)), H', ⟨by have := HK1.out; omega⟩, ⟨by repeat (first | (with_reducible first | exact HB.out | apply bU | apply bS GE289.out | apply bS GE291.out) | exact HB.out)⟩⟩
        ·replace c10 := Bool.eq_false_iff.mpr c10
         subst c10
         have H1 : (some false) = some r := by rw [if_neg (show ¬ (false = true) by decide)] at H; exact H
         clear H
         have H := H1
         clear H1
         obtain rfl := Option.some.inj H
         have p288 : 0 ≤ (x17_1 : Int) := of_decide_eq_true (by first | (with_reducible assumption) | assumption)
         have q288 : x17_1 < (l0.length : Int) := of_decide_eq_true (by first | (with_reducible assumption) | assumption)
         obtain ⟨ad288, e288, hx288_0, hx288_1⟩ := at_T56 HR0.out x17_1 p288 q288
         cases e288
         replace hx288_0 := (HB.out.cell (World.block_lt_of_cell? w _ hx288_0)).trans hx288_0
         replace hx288_1 := (HB.out.cell (World.block_lt_of_cell? w _ hx288_1)).trans hx288_1
         replace p288 := eq_true p288
         replace q288 := eq_true q288
         go_wp2_with (first | ((with_reducible refine gate_dst (N := 8) rfl ?_); refine bx_ 8 #[.int .u32 0, .int .i64 0] 56 rfl rfl ?hr ?_; (case hr => go_simp; try rfl); intro gb289 hg w18 hbox hb; have BK289 := Aside0.mk (hbox); have GW289 := gs_ HB hg; have GE289 := gs_ HB hg; replace HB := bs_ HB hb; clear hb hbox hg; obtain ⟨hcz19_0, hcz19_1, hfz19_0, hfz19_1⟩ := c2_ BK289; have p290 : 0 ≤ (x17_1 : Int) := of_decide_eq_true (by first | (with_reducible assumption) | assumption); have q290 : x17_1 < (l1.length : Int) := of_decide_eq_true (by first | (with_reducible assumption) | assumption); obtain ⟨ad290, e290, hx290_0, hx290_1⟩ := at_T56 HR1.out x17_1 p290 q290; cases e290; have hn290_0 : ad290.block ≠ gb289 := Nat.ne_of_lt (Nat.lt_of_lt_of_le (by have := World.block_lt_of_cell? _ _ hx290_0; first | rwa [add_block] at this | exact this) GW289.out); have hn290_1 : ad290.block ≠ gb289 := Nat.ne_of_lt (Nat.lt_of_lt_of_le (by have := World.block_lt_of_cell? _ _ hx290_0; first | rwa [add_block] at this | exact this) GW289.out); replace hx290_0 := (HB.out.cell (World.block_lt_of_cell? w _ hx290_0)).trans hx290_0; replace hx290_1 := (HB.out.cell (World.block_lt_of_cell? w _ hx290_1)).trans hx290_1; replace hx290_0 := (cell_far (p := ⟨gb289, 0, none⟩) (by first | (rw [add_block]; exact hn290_0) | (show (Addr.add _ _).block ≠ _; rw [add_block]; exact hn290_0) | exact hn290_0) (.int .u32 ((rd_T56 l0 x17_1).f0))).trans hx290_0; replace hx290_1 := (cell_far (p := ⟨gb289, 0, none⟩) (by first | (rw [add_block]; exact hn290_0) | (show (Addr.add _ _).block ≠ _; rw [add_block]; exact hn290_0) | exact hn290_0) (.int .u32 ((rd_T56 l0 x17_1).f0))).trans hx290_1; replace hx290_0 := (cell_far (p := ⟨gb289, 1, none⟩) (by first | (rw [add_block]; exact hn290_1) | (show (Addr.add _ _).block ≠ _; rw [add_block]; exact hn290_1) | exact hn290_1) (.int .i64 ((rd_T56 l0 x17_1).f1))).trans hx290_0; replace hx290_1 := (cell_far (p := ⟨gb289, 1, none⟩) (by first | (rw [add_block]; exact hn290_1) | (show (Addr.add _ _).block ≠ _; rw [add_block]; exact hn290_1) | exact hn290_1) (.int .i64 ((rd_T56 l0 x17_1).f1))).trans hx290_1; clear hn290_0; clear hn290_1; replace p290 := eq_true p290; replace q290 := eq_true q290) | ((with_reducible refine gate_dst (N := 9) rfl ?_); refine bx_ 9 #[.int .u32 0, .int .i64 0] 56 rfl rfl ?hr ?_; (case hr => go_simp; try rfl); intro gb291 hg w20 hbox hb; have BK291 := Aside0.mk (hbox); have GW291 := Aside0.mk ((by rw [hg]; exact (below_size (by repeat (first | (with_reducible first | exact HB.out | apply bU | apply bS GE289.out) | exact HB.out))) : w.heap.size ≤ gb291)); have GE291 := Aside0.mk ((by rw [hg]; exact (below_size (by repeat (first | (with_reducible first | exact HB.out | apply bU | apply bS GE289.out) | exact HB.out))) : w.heap.size ≤ gb291)); have NB289_291 := Aside0.mk ((by rw [hg]; exact Nat.ne_of_lt (blk_lt (g := gb289) (o := .cells #[.int .u32 ((rd_T56 l0 x17_1).f0), .int .i64 ((rd_T56 l0 x17_1).f1)] 56 (0, 0)) (by (with_reducible repeat (first | refine blk_drewN ?_ _ | refine blk_drew ?_ | refine blk_alloc ?_ _)); refine blk_put (cs := #[.int .u32 ((rd_T56 l0 x17_1).f0), .int .i64 0]) ?_ 1 _ rfl; (with_reducible repeat (first | refine blk_drewN ?_ _ | refine blk_drew ?_ | refine blk_alloc ?_ _)); refine blk_put (cs := #[.int .u32 0, .int .i64 0]) ?_ 0 _ rfl; (with_reducible repeat (first | refine blk_drewN ?_ _ | refine blk_drew ?_ | refine blk_alloc ?_ _)); exact BK289.out)) : gb289 ≠ gb291)); have NB291_289 := Aside0.mk ((by rw [hg]; exact Nat.ne_of_gt (blk_lt (g := gb289) (o := .cells #[.int .u32 ((rd_T56 l0 x17_1).f0), .int .i64 ((rd_T56 l0 x17_1).f1)] 56 (0, 0)) (by (with_reducible repeat (first | refine blk_drewN ?_ _ | refine blk_drew ?_ | refine blk_alloc ?_ _)); refine blk_put (cs := #[.int .u32 ((rd_T56 l0 x17_1).f0), .int .i64 0]) ?_ 1 _ rfl; (with_reducible repeat (first | refine blk_drewN ?_ _ | refine blk_drew ?_ | refine blk_alloc ?_ _)); refine blk_put (cs := #[.int .u32 0, .int .i64 0]) ?_ 0 _ rfl; (with_reducible repeat (first | refine blk_drewN ?_ _ | refine blk_drew ?_ | refine blk_alloc ?_ _)); exact BK289.out)) : gb291 ≠ gb289)); replace BK289 := Aside0.mk (blk_below (g := gb289) (o := .cells #[.int .u32 ((rd_T56 l0 x17_1).f0), .int .i64 ((rd_T56 l0 x17_1).f1)] 56 (0, 0)) (by (with_reducible repeat (first | refine blk_drewN ?_ _ | refine blk_drew ?_ | refine blk_alloc ?_ _)); refine blk_put (cs := #[.int .u32 ((rd_T56 l0 x17_1).f0), .int .i64 0]) ?_ 1 _ rfl; (with_reducible repeat (first | refine blk_drewN ?_ _ | refine blk_drew ?_ | refine blk_alloc ?_ _)); refine blk_put (cs := #[.int .u32 0, .int .i64 0]) ?_ 0 _ rfl; (with_reducible repeat (first | refine blk_drewN ?_ _ | refine blk_drew ?_ | refine blk_alloc ?_ _)); exact BK289.out) hb); replace HB := Aside0.mk (below_step (by repeat (first | (with_reducible first | exact HB.out | apply bU | apply bS GE289.out) | exact HB.out)) hb); clear hb hbox hg; have hnb21 := NB291_289.out; have hnc21 := NB289_291.out; obtain ⟨hcz22_0, hcz22_1, hfz22_0, hfz22_1⟩ := c2_ BK291; obtain ⟨hcz23_0, hcz23_1, hfz23_0, hfz23_1⟩ := c2_ BK289) | ((with_reducible refine gate_tmp (s := 26) rfl ?_); refine goesT_ (some 29) rfl rfl Try.func50 (by kernel_rfl) rfl #[.agg #[.int .u32 ((rd_T56 l0 x17_1).f0), .int .i64 ((rd_T56 l0 x17_1).f1)], .agg #[.int .u32 ((rd_T56 l1 x17_1).f0), .int .i64 ((rd_T56 l1 x17_1).f1)]] rfl rfl (by (try simp only [List.map_toArray, List.map_cons, List.map_nil]); first | done | rfl | (simp only [List.length_drop, List.length_take]; rfl)) ?_; (with_reducible refine (lsa_Same_2.calls ((rd_T56 l0 x17_1).f0) ((rd_T56 l0 x17_1).f1) ((rd_T56 l1 x17_1).f0) ((rd_T56 l1 x17_1).f1) false _ A9.out).mono ?_); rintro e w24 ⟨rfl, hb⟩; refine ⟨_, rfl, ?_⟩; replace BK289 := Aside0.mk (blk_below (g := gb289) (o := .cells #[.int .u32 ((rd_T56 l0 x17_1).f0), .int .i64 ((rd_T56 l0 x17_1).f1)] 56 (0, 0)) (by (with_reducible repeat (first | refine blk_drewN ?_ _ | refine blk_drew ?_ | refine blk_alloc ?_ _)); refine blk_far ?_ NB289_291.out _; (with_reducible repeat (first | refine blk_drewN ?_ _ | refine blk_drew ?_ | refine blk_alloc ?_ _)); refine blk_far ?_ NB289_291.out _; (with_reducible repeat (first | refine blk_drewN ?_ _ | refine blk_drew ?_ | refine blk_alloc ?_ _)); exact BK289.out) hb); replace BK291 := Aside0.mk (blk_below (g := gb291) (o := .cells #[.int .u32 ((rd_T56 l1 x17_1).f0), .int .i64 ((rd_T56 l1 x17_1).f1)] 56 (0, 0)) (by (with_reducible repeat (first | refine blk_drewN ?_ _ | refine blk_drew ?_ | refine blk_alloc ?_ _)); refine blk_put (cs := #[.int .u32 ((rd_T56 l1 x17_1).f0), .int .i64 0]) ?_ 1 _ rfl; (with_reducible repeat (first | refine blk_drewN ?_ _ | refine blk_drew ?_ | refine blk_alloc ?_ _)); refine blk_put (cs := #[.int .u32 0, .int .i64 0]) ?_ 0 _ rfl; (with_reducible repeat (first | refine blk_drewN ?_ _ | refine blk_drew ?_ | refine blk_alloc ?_ _)); exact BK291.out) hb); replace HB := Aside0.mk (below_step (by repeat (first | (with_reducible first | exact HB.out | apply bU | apply bS GE289.out | apply bS GE291.out) | exact HB.out)) hb); (try clear hb); (try clear hb2); (try clear hk); (try clear hi)))
         go_ret
         exact ⟨by first | rfl | (simp [errW_none, errW_some] <;> rfl) | (simp [*, errW_none, errW_some] <;> rfl), by repeat (first | (with_reducible first | exact HB.out | apply bU | apply bS GE289.out | apply bS GE291.out) | exact HB.out)⟩
       ·rw [if_neg c8] at H
        exact absurd H (by simp)
      ·rw [if_neg c7] at H
       exact absurd H (by simp)
     ·rw [if_neg c6] at H
      exact absurd H (by simp)
    ·rw [if_neg c5] at H
     have c5b0 : decide (x17_1 < (l0.length : Int)) = false := decide_eq_false c5
     clear c5
     obtain rfl := Option.some.inj H
     go_wp2
     go_ret
     exact ⟨by first | rfl | (simp [errW_none, errW_some] <;> rfl) | (simp [*, errW_none, errW_some] <;> rfl), kw_ HB⟩
 ·rw [if_neg c4] at H
  have c4b0 : ((l0.length : Int) == (l1.length : Int)) = false := beq_eq_false_iff_ne.mpr c4
  have c4b1 : ((l0.length : Int) != (l1.length : Int)) = true := bne_iff_ne.mpr c4
  have c4b2 : (l0.length == l1.length) = false := by first | simpa using c4 | (simp at c4 ⊢; omega)
  obtain rfl := Option.some.inj H
  go_enter Try.func52, Try.ntmps52
  go_wp2
  go_ret
  exact ⟨by first | rfl | (simp [errW_none, errW_some] <;> rfl) | (simp [*, errW_none, errW_some] <;> rfl), kw_ HB⟩

end Go.Proofs.Ytmknjjfdlkgidaa.HLsc
