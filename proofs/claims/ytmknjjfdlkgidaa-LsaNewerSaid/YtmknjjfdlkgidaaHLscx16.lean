-- LAID by wip/hand.py, a program of this repository, over the kit's print: contracts of our own are put in. Lean checks it.
import Derived.Test.YtmknjjfdlkgidaaHLscx0
import Derived.Test.YtmknjjfdlkgidaaHLscx2
import Derived.Test.YtmknjjfdlkgidaaHLscx15
namespace Go.Proofs.Ytmknjjfdlkgidaa.HLsc
open Go.RowKit Go.Proofs.YtmknjjfdlkgidaaW.PrintWords Go.Proofs.YtmknjjfdlkgidaaW.PrintLast Go.Proofs.YtmknjjfdlkgidaaW.PrintMore
attribute [local go_sem] gtr_str leq_str max2_int min2_int max_two min_two max_three min_three max_four min_four   -- for this text's walks alone
set_option linter.unusedVariables false
set_option linter.unusedSimpArgs false

attribute [local go_sem high] eqA56
/-! ### api_Adjacency: function 51 -/
def api_Adjacency.l0 : Nat → List (S43) → List (S43) → Int → Int → Option (Bool)
 | 0, _, _, _, _ => none
 | k + 1, x1, x15, x16, x17 => if x17 < x16 then (if 0 ≤ x17 then (if x17 < (x15.length : Int) then (if x17 < (x1.length : Int) then ((lsa_Same_1.f ((rd_T43 x15 x17).f0) ((rd_T43 x15 x17).f1) ((rd_T43 x15 x17).f2) ((rd_T43 x1 x17).f0) ((rd_T43 x1 x17).f1) ((rd_T43 x1 x17).f2)).bind fun t382 => (if t382 = true then (api_Adjacency.l0 k x1 x15 x16 (wrap64 (x17 + 1))) else (some false))) else (none)) else (none)) else (none)) else (some true)
def api_Adjacency.f (k : Nat) (l0 : List (S43)) (l1 : List (S43))  : Option (Bool) := if (l0.length : Int) = (l1.length : Int) then (api_Adjacency.l0 k l1 l0 (l0.length : Int) 0) else (some false)
theorem api_Adjacency.mono_l : ∀ k, (∀ y0 y1 y2 y3, LeO (api_Adjacency.l0 k y0 y1 y2 y3) (api_Adjacency.l0 (k + 1) y0 y1 y2 y3))
 | 0 => fun _ _ _ _ r h => by simp [api_Adjacency.l0] at h
 | k + 1 => by
  have ih0 := api_Adjacency.mono_l k
  ·intro y0 y1 y2 y3
   unfold api_Adjacency.l0
   repeat' first
   | (with_reducible exact ih0 _ _ _ _)
   | (with_reducible exact LeO.refl _)
   | (with_reducible exact LeO.none _)
   | (with_reducible refine LeO.ite ?_ ?_)
   | (with_reducible refine LeO.bind ?_ (fun _ => ?_))
   | exact ih0 _ _ _ _
   | exact LeO.none _
   | refine LeO.ite ?_ ?_
   | refine LeO.bind ?_ (fun _ => ?_)
theorem api_Adjacency.mono : ∀ a0 a1 k, LeO (api_Adjacency.f k a0 a1) (api_Adjacency.f (k + 1) a0 a1) := by
 intro a0 a1 k
 have ih0 := api_Adjacency.mono_l k
 unfold api_Adjacency.f
 repeat' first
   | (with_reducible exact ih0 _ _ _ _)
   | (with_reducible exact LeO.refl _)
   | (with_reducible exact LeO.none _)
   | (with_reducible refine LeO.ite ?_ ?_)
   | (with_reducible refine LeO.bind ?_ (fun _ => ?_))
   | exact ih0 _ _ _ _
   | exact LeO.none _
   | refine LeO.ite ?_ ?_
   | refine LeO.bind ?_ (fun _ => ?_)
set_option maxHeartbeats 8000000 in
set_option maxRecDepth 100000 in
theorem api_Adjacency.calls (k : Nat) (A0 : Option Addr) (c0 : Nat) (l0 : List (S43)) (A1 : Option Addr) (c1 : Nat) (l1 : List (S43))  (r : Bool) (w : World) (hr0 : Kd.C k43 w A0 l0.length l0) (hc0 : l0.length ≤ c0) (hr1 : Kd.C k43 w A1 l1.length l1) (hc1 : l1.length ≤ c1) (h : api_Adjacency.f k l0 l1 = some r) :
  Calls Try.prog 51 #[.slice A0 l0.length c0, .slice A1 l1.length c1, .func (.func 49) #[] #[]] w fun e w' => e = .returned (.bool r) ∧ Below w.heap.size w w' := by
 have hu43 := Try.underlying43
 have HR0 := Aside0.mk hr0
 have HC0 := Aside0.mk hc0
 clear hr0 hc0
 have HR1 := Aside0.mk hr1
 have HC1 := Aside0.mk hc1
 clear hr1 hc1
 have HB := Aside0.mk (Below.refl w.heap.size w)
 have H : (if (l0.length : Int) = (l1.length : Int) then (api_Adjacency.l0 k l1 l0 (l0.length : Int) 0) else (some false)) = some r := h
 clear h
 by_cases c4 : (l0.length : Int) = (l1.length : Int)
 ·rw [if_pos c4] at H
  have c4b0 : ((l0.length : Int) == (l1.length : Int)) = true := beq_iff_eq.mpr c4
  have c4b1 : ((l0.length : Int) != (l1.length : Int)) = false := bne_eq_false_iff_eq.mpr c4
  have c4b2 : (l0.length == l1.length) = true := by first | simpa using c4 | (simp at c4 ⊢; omega)
  clear c4
  have H' := Aside0.mk H
  clear H
  go_enter Try.func51, Try.ntmps51
  go_wp2
  go_loopg [17] k (fun kq v17 w' => ∃ (x17_1 : Int), v17 = .int .i64 x17_1 ∧ Aside0 (api_Adjacency.l0 kq l1 l0 (l0.length : Int) x17_1 = some r) ∧ Aside0 (kq ≤ k) ∧ Aside0 (Below w.heap.size w w'))
  case atStart => exact ⟨(0), (by first | rfl | (simp; done) | (simp [*]; done)), H', ⟨Nat.le_refl _⟩, ⟨kw_ HB⟩⟩
  case round =>
   clear H'
   (try clear c1); (try clear c4); (try clear c4b0); (try clear c4b1); (try clear c4b2)
   obtain ⟨x17_1, rfl, HA, HK1, HB⟩ := hrel
   cases gk with
   | zero => exact absurd HA.out (by simp [api_Adjacency.l0])
   | succ k1 =>
    have H := HA.out
    clear HA
    simp only [api_Adjacency.l0] at H
    by_cases c5 : x17_1 < (l0.length : Int)
    ·rw [if_pos c5] at H
     have c5b0 : decide (x17_1 < (l0.length : Int)) = true := decide_eq_true c5
     clear c5
     by_cases c6 : 0 ≤ x17_1
     ·rw [if_pos c6] at H
      have c6b0 : decide (0 ≤ x17_1) = true := decide_eq_true c6
      clear c6
      by_cases c7 : x17_1 < (l0.length : Int)
      ·rw [if_pos c7] at H
       have c7b0 : decide (x17_1 < (l0.length : Int)) = true := decide_eq_true c7
       clear c7
       by_cases c8 : x17_1 < (l1.length : Int)
       ·rw [if_pos c8] at H
        have c8b0 : decide (x17_1 < (l1.length : Int)) = true := decide_eq_true c8
        clear c8
        replace H := Option.bind_eq_some_iff.mp H
        obtain ⟨t382, A90, H⟩ := H
        replace H : (if t382 = true then (api_Adjacency.l0 k1 l1 l0 (l0.length : Int) (wrap64 (x17_1 + 1))) else (some false)) = some r := H
        have A9 := Aside0.mk A90
        clear A90
        by_cases c10 : t382 = true
        ·subst c10
         have H1 : (api_Adjacency.l0 k1 l1 l0 (l0.length : Int) (wrap64 (x17_1 + 1))) = some r := by rw [if_pos rfl] at H; exact H
         clear H
         have H := H1
         clear H1
         have H' := Aside0.mk H
         clear H
         have p378 : 0 ≤ (x17_1 : Int) := of_decide_eq_true (by first | (with_reducible assumption) | assumption)
         have q378 : x17_1 < (l0.length : Int) := of_decide_eq_true (by first | (with_reducible assumption) | assumption)
         obtain ⟨ad378, e378, hx378_0, hx378_1, hx378_2⟩ := at_T43 HR0.out x17_1 p378 q378
         cases e378
         replace hx378_0 := (HB.out.cell (World.block_lt_of_cell? w _ hx378_0)).trans hx378_0
         replace hx378_1 := (HB.out.cell (World.block_lt_of_cell? w _ hx378_1)).trans hx378_1
         replace hx378_2 := (HB.out.cell (World.block_lt_of_cell? w _ hx378_2)).trans hx378_2
         replace p378 := eq_true p378
         replace q378 := eq_true q378
         go_wp2_with (first | ((with_reducible refine gate_dst (N := 8) rfl ?_); refine bx_ 8 #[.int .i64 0, .int .i64 0, .int .i64 0] 43 rfl rfl ?hr ?_; (case hr => go_simp; try rfl); intro gb379 hg w11 hbox hb; have BK379 := Aside0.mk (hbox); have GW379 := gs_ HB hg; have GE379 := gs_ HB hg; replace HB := bs_ HB hb; clear hb hbox hg; obtain ⟨hcz12_0, hcz12_1, hcz12_2, hfz12_0, hfz12_1, hfz12_2⟩ := c3_ BK379; have p380 : 0 ≤ (x17_1 : Int) := of_decide_eq_true (by first | (with_reducible assumption) | assumption); have q380 : x17_1 < (l1.length : Int) := of_decide_eq_true (by first | (with_reducible assumption) | assumption); obtain ⟨ad380, e380, hx380_0, hx380_1, hx380_2⟩ := at_T43 HR1.out x17_1 p380 q380; cases e380; have hn380_0 : ad380.block ≠ gb379 := Nat.ne_of_lt (Nat.lt_of_lt_of_le (by have := World.block_lt_of_cell? _ _ hx380_0; first | rwa [add_block] at this | exact this) GW379.out); have hn380_1 : ad380.block ≠ gb379 := Nat.ne_of_lt (Nat.lt_of_lt_of_le (by have := World.block_lt_of_cell? _ _ hx380_0; first | rwa [add_block] at this | exact this) GW379.out); have hn380_2 : ad380.block ≠ gb379 := Nat.ne_of_lt (Nat.lt_of_lt_of_le (by have := World.block_lt_of_cell? _ _ hx380_0; first | rwa [add_block] at this | exact this) GW379.out); replace hx380_0 := (HB.out.cell (World.block_lt_of_cell? w _ hx380_0)).trans hx380_0; replace hx380_1 := (HB.out.cell (World.block_lt_of_cell? w _ hx380_1)).trans hx380_1; replace hx380_2 := (HB.out.cell (World.block_lt_of_cell? w _ hx380_2)).trans hx380_2; replace hx380_0 := (cell_far (p := ⟨gb379, 0, none⟩) (by first | (rw [add_block]; exact hn380_0) | (show (Addr.add _ _).block ≠ _; rw [add_block]; exact hn380_0) | exact hn380_0) (.int .i64 ((rd_T43 l0 x17_1).f0))).trans hx380_0; replace hx380_1 := (cell_far (p := ⟨gb379, 0, none⟩) (by first | (rw [add_block]; exact hn380_0) | (show (Addr.add _ _).block ≠ _; rw [add_block]; exact hn380_0) | exact hn380_0) (.int .i64 ((rd_T43 l0 x17_1).f0))).trans hx380_1; replace hx380_2 := (cell_far (p := ⟨gb379, 0, none⟩) (by first | (rw [add_block]; exact hn380_0) | (show (Addr.add _ _).block ≠ _; rw [add_block]; exact hn380_0) | exact hn380_0) (.int .i64 ((rd_T43 l0 x17_1).f0))).trans hx380_2; replace hx380_0 := (cell_far (p := ⟨gb379, 1, none⟩) (by first | (rw [add_block]; exact hn380_1) | (show (Addr.add _ _).block ≠ _; rw [add_block]; exact hn380_1) | exact hn380_1) (.int .i64 ((rd_T43 l0 x17_1).f1))).trans hx380_0; replace hx380_1 := (cell_far (p := ⟨gb379, 1, none⟩) (by first | (rw [add_block]; exact hn380_1) | (show (Addr.add _ _).block ≠ _; rw [add_block]; exact hn380_1) | exact hn380_1) (.int .i64 ((rd_T43 l0 x17_1).f1))).trans hx380_1; replace hx380_2 := (cell_far (p := ⟨gb379, 1, none⟩) (by first | (rw [add_block]; exact hn380_1) | (show (Addr.add _ _).block ≠ _; rw [add_block]; exact hn380_1) | exact hn380_1) (.int .i64 ((rd_T43 l0 x17_1).f1))).trans hx380_2; replace hx380_0 := (cell_far (p := ⟨gb379, 2, none⟩) (by first | (rw [add_block]; exact hn380_2) | (show (Addr.add _ _).block ≠ _; rw [add_block]; exact hn380_2) | exact hn380_2) (.int .i64 ((rd_T43 l0 x17_1).f2))).trans hx380_0; replace hx380_1 := (cell_far (p := ⟨gb379, 2, none⟩) (by first | (rw [add_block]; exact hn380_2) | (show (Addr.add _ _).block ≠ _; rw [add_block]; exact hn380_2) | exact hn380_2) (.int .i64 ((rd_T43 l0 x17_1).f2))).trans hx380_1; replace hx380_2 := (cell_far (p := ⟨gb379, 2, none⟩) (by first | (rw [add_block]; exact hn380_2) | (show (Addr.add _ _).block ≠ _; rw [add_block]; exact hn380_2) | exact hn380_2) (.int .i64 ((rd_T43 l0 x17_1).f2))).trans hx380_2; clear hn380_0; clear hn380_1; clear hn380_2; replace p380 := eq_true p380; replace q380 := eq_true q380) | ((with_reducible refine gate_dst (N := 9) rfl ?_); refine bx_ 9 #[.int .i64 0, .int .i64 0, .int .i64 0] 43 rfl rfl ?hr ?_; (case hr => go_simp; try rfl); intro gb381 hg w13 hbox hb; have BK381 := Aside0.mk (hbox); have GW381 := Aside0.mk ((by rw [hg]; exact (below_size (by repeat (first | (with_reducible first | exact HB.out | apply bU | apply bS GE379.out) | exact HB.out))) : w.heap.size ≤ gb381)); have GE381 := Aside0.mk ((by rw [hg]; exact (below_size (by repeat (first | (with_reducible first | exact HB.out | apply bU | apply bS GE379.out) | exact HB.out))) : w.heap.size ≤ gb381)); have NB379_381 := Aside0.mk ((by rw [hg]; exact Nat.ne_of_lt (blk_lt (g := gb379) (o := .cells #[.int .i64 ((rd_T43 l0 x17_1).f0), .int .i64 ((rd_T43 l0 x17_1).f1), .int .i64 ((rd_T43 l0 x17_1).f2)] 43 (0, 0)) (by (with_reducible repeat (first | refine blk_drewN ?_ _ | refine blk_drew ?_ | refine blk_alloc ?_ _)); refine blk_put (cs := #[.int .i64 ((rd_T43 l0 x17_1).f0), .int .i64 ((rd_T43 l0 x17_1).f1), .int .i64 0]) ?_ 2 _ rfl; (with_reducible repeat (first | refine blk_drewN ?_ _ | refine blk_drew ?_ | refine blk_alloc ?_ _)); refine blk_put (cs := #[.int .i64 ((rd_T43 l0 x17_1).f0), .int .i64 0, .int .i64 0]) ?_ 1 _ rfl; (with_reducible repeat (first | refine blk_drewN ?_ _ | refine blk_drew ?_ | refine blk_alloc ?_ _)); refine blk_put (cs := #[.int .i64 0, .int .i64 0, .int .i64 0]) ?_ 0 _ rfl; (with_reducible repeat (first | refine blk_drewN ?_ _ | refine blk_drew ?_ | refine blk_alloc ?_ _)); exact BK379.out)) : gb379 ≠ gb381)); have NB381_379 := Aside0.mk ((by rw [hg]; exact Nat.ne_of_gt (blk_lt (g := gb379) (o := .cells #[.int .i64 ((rd_T43 l0 x17_1).f0), .int .i64 ((rd_T43 l0 x17_1).f1), .int .i64 ((rd_T43 l0 x17_1).f2)] 43 (0, 0)) (by (with_reducible repeat (first | refine blk_drewN ?_ _ | refine blk_drew ?_ | refine blk_alloc ?_ _)); refine blk_put (cs := #[.int .i64 ((rd_T43 l0 x17_1).f0), .int .i64 ((rd_T43 l0 x17_1).f1), .int .i64 0]) ?_ 2 _ rfl; (with_reducible repeat (first | refine blk_drewN ?_ _ | refine blk_drew ?_ | refine blk_alloc ?_ _)); refine blk_put (cs := #[.int .i64 ((rd_T43 l0 x17_1).f0), .int .i64 0, .int .i64 0]) ?_ 1 _ rfl; (with_reducible repeat (first | refine blk_drewN ?_ _ | refine blk_drew ?_ | refine blk_alloc ?_ _)); refine blk_put (cs := #[.int .i64 0, .int .i64 0, .int .i64 0]) ?_ 0 _ rfl; (with_reducible repeat (first | refine blk_drewN ?_ _ | refine blk_drew ?_ | refine blk_alloc ?_ _)); exact BK379.out)) : gb381 ≠ gb379)); replace BK379 := Aside0.mk (blk_below (g := gb379) (o := .cells #[.int .i64 ((rd_T43 l0 x17_1).f0), .int .i64 ((rd_T43 l0 x17_1).f1), .int .i64 ((rd_T43 l0 x17_1).f2)] 43 (0, 0)) (by (with_reducible repeat (first | refine blk_drewN ?_ _ | refine blk_drew ?_ | refine blk_alloc ?_ _)); refine blk_put (cs := #[.int .i64 ((rd_T43 l0 x17_1).f0), .int .i64 ((rd_T43 l0 x17_1).f1), .int .i64 0]) ?_ 2 _ rfl; (with_reducible repeat (first | refine blk_drewN ?_ _ | refine blk_drew ?_ | refine blk_alloc ?_ _)); refine blk_put (cs := #[.int .i64 ((rd_T43 l0 x17_1).f0), .int .i64 0, .int .i64 0]) ?_ 1 _ rfl; (with_reducible repeat (first | refine blk_drewN ?_ _ | refine blk_drew ?_ | refine blk_alloc ?_ _)); refine blk_put (cs := #[.int .i64 0, .int .i64 0, .int .i64 0]) ?_ 0 _ rfl; (with_reducible repeat (first | refine blk_drewN ?_ _ | refine blk_drew ?_ | refine blk_alloc ?_ _)); exact BK379.out) hb); replace HB := Aside0.mk (below_step (by repeat (first | (with_reducible first | exact HB.out | apply bU | apply bS GE379.out) | exact HB.out)) hb); clear hb hbox hg; have hnb14 := NB381_379.out; have hnc14 := NB379_381.out; obtain ⟨hcz15_0, hcz15_1, hcz15_2, hfz15_0, hfz15_1, hfz15_2⟩ := c3_ BK381; obtain ⟨hcz16_0, hcz16_1, hcz16_2, hfz16_0, hfz16_1, hfz16_2⟩ := c3_ BK379) | ((with_reducible refine gate_tmp (s := 26) rfl ?_); refine goesT_ (some 29) rfl rfl Try.func49 (by kernel_rfl) rfl #[.agg #[.int .i64 ((rd_T43 l0 x17_1).f0), .int .i64 ((rd_T43 l0 x17_1).f1), .int .i64 ((rd_T43 l0 x17_1).f2)], .agg #[.int .i64 ((rd_T43 l1 x17_1).f0), .int .i64 ((rd_T43 l1 x17_1).f1), .int .i64 ((rd_T43 l1 x17_1).f2)]] rfl rfl (by (try simp only [List.map_toArray, List.map_cons, List.map_nil]); first | done | rfl | (simp only [List.length_drop, List.length_take]; rfl)) ?_; (with_reducible refine (lsa_Same_1.calls ((rd_T43 l0 x17_1).f0) ((rd_T43 l0 x17_1).f1) ((rd_T43 l0 x17_1).f2) ((rd_T43 l1 x17_1).f0) ((rd_T43 l1 x17_1).f1) ((rd_T43 l1 x17_1).f2) true _ A9.out).mono ?_); rintro e w17 ⟨rfl, hb⟩; refine ⟨_, rfl, ?_⟩; replace BK379 := Aside0.mk (blk_below (g := gb379) (o := .cells #[.int .i64 ((rd_T43 l0 x17_1).f0), .int .i64 ((rd_T43 l0 x17_1).f1), .int .i64 ((rd_T43 l0 x17_1).f2)] 43 (0, 0)) (by (with_reducible repeat (first | refine blk_drewN ?_ _ | refine blk_drew ?_ | refine blk_alloc ?_ _)); refine blk_far ?_ NB379_381.out _; (with_reducible repeat (first | refine blk_drewN ?_ _ | refine blk_drew ?_ | refine blk_alloc ?_ _)); refine blk_far ?_ NB379_381.out _; (with_reducible repeat (first | refine blk_drewN ?_ _ | refine blk_drew ?_ | refine blk_alloc ?_ _)); refine blk_far ?_ NB379_381.out _; (with_reducible repeat (first | refine blk_drewN ?_ _ | refine blk_drew ?_ | refine blk_alloc ?_ _)); exact BK379.out) hb); replace BK381 := Aside0.mk (blk_below (g := gb381) (o := .cells #[.int .i64 ((rd_T43 l1 x17_1).f0), .int .i64 ((rd_T43 l1 x17_1).f1), .int .i64 ((rd_T43 l1 x17_1).f2)] 43 (0, 0)) (by (with_reducible repeat (first | refine blk_drewN ?_ _ | refine blk_drew ?_ | refine blk_alloc ?_ _)); refine blk_put (cs := #[.int .i64 ((rd_T43 l1 x17_1).f0), .int .i64 ((rd_T43 l1 x17_1).f1), .int .i64 0]) ?_ 2 _ rfl; (with_reducible repeat (first | refine blk_drewN ?_ _ | refine blk_drew ?_ | refine blk_alloc ?_ _)); refine blk_put (cs := #[.int .i64 ((rd_T43 l1 x17_1).f0), .int .i64 0, .int .i64 0]) ?_ 1 _ rfl; (with_reducible repeat (first | refine blk_drewN ?_ _ | refine blk_drew ?_ | refine blk_alloc ?_ _)); refine blk_put (cs := #[.int .i64 0, .int .i64 0, .int .i64 0]) ?_ 0 _ rfl; (with_reducible repeat (first | refine blk_drewN ?_ _ | refine blk_drew ?_ | refine blk_alloc ?_ _)); exact BK381.out) hb); replace HB := Aside0.mk (below_step (by repeat (first | (with_reducible first | exact HB.out | apply bU | apply bS GE379.out | apply bS GE381.out) | exact HB.out)) hb); (try clear hb); (try clear hb2); (try clear hk); (try clear hi)))
         go_roundg k1
         case measure => have := HK1.out; omega
         case rel => exact ⟨(wrap64 (x17_1 + 1)), (by first | rfl | (simp; done) | (simp [*]; done)), H', ⟨by have := HK1.out; omega⟩, ⟨by repeat (first | (with_reducible first | exact HB.out | apply bU | apply bS GE379.out | apply bS GE381.out) | exact HB.out)⟩⟩
        ·replace c10 := Bool.eq_false_iff.mpr c10
         subst c10
         have H1 : (some false) = some r := by rw [if_neg (show ¬ (false = true) by decide)] at H; exact H
         clear H
         have H := H1
         clear H1
         obtain rfl := Option.some.inj H
         have p378 : 0 ≤ (x17_1 : Int) := of_decide_eq_true (by first | (with_reducible assumption) | assumption)
         have q378 : x17_1 < (l0.length : Int) := of_decide_eq_true (by first | (with_reducible assumption) | assumption)
         obtain ⟨ad378, e378, hx378_0, hx378_1, hx378_2⟩ := at_T43 HR0.out x17_1 p378 q378
         cases e378
         replace hx378_0 := (HB.out.cell (World.block_lt_of_cell? w _ hx378_0)).trans hx378_0
         replace hx378_1 := (HB.out.cell (World.block_lt_of_cell? w _ hx378_1)).trans hx378_1
         replace hx378_2 := (HB.out.cell (World.block_lt_of_cell? w _ hx378_2)).trans hx378_2
         replace p378 := eq_true p378
         replace q378 := eq_true q378
         go_wp2_with (first | ((with_reducible refine gate_dst (N := 8) rfl ?_); refine bx_ 8 #[.int .i64 0, .int .i64 0, .int .i64 0] 43 rfl rfl ?hr ?_; (case hr => go_simp; try rfl); intro gb379 hg w18 hbox hb; have BK379 := Aside0.mk (hbox); have GW379 := gs_ HB hg; have GE379 := gs_ HB hg; replace HB := bs_ HB hb; clear hb hbox hg; obtain ⟨hcz19_0, hcz19_1, hcz19_2, hfz19_0, hfz19_1, hfz19_2⟩ := c3_ BK379; have p380 : 0 ≤ (x17_1 : Int) := of_decide_eq_true (by first | (with_reducible assumption) | assumption); have q380 : x17_1 < (l1.length : Int) := of_decide_eq_true (by first | (with_reducible assumption) | assumption); obtain ⟨ad380, e380, hx380_0, hx380_1, hx380_2⟩ := at_T43 HR1.out x17_1 p380 q380; cases e380; have hn380_0 : ad380.block ≠ gb379 := Nat.ne_of_lt (Nat.lt_of_lt_of_le (by have := World.block_lt_of_cell? _ _ hx380_0; first | rwa [add_block] at this | exact this) GW379.out); have hn380_1 : ad380.block ≠ gb379 := Nat.ne_of_lt (Nat.lt_of_lt_of_le (by have := World.block_lt_of_cell? _ _ hx380_0; first | rwa [add_block] at this | exact this) GW379.out); have hn380_2 : ad380.block ≠ gb379 := Nat.ne_of_lt (Nat.lt_of_lt_of_le (by have := World.block_lt_of_cell? _ _ hx380_0; first | rwa [add_block] at this | exact this) GW379.out); replace hx380_0 := (HB.out.cell (World.block_lt_of_cell? w _ hx380_0)).trans hx380_0; replace hx380_1 := (HB.out.cell (World.block_lt_of_cell? w _ hx380_1)).trans hx380_1; replace hx380_2 := (HB.out.cell (World.block_lt_of_cell? w _ hx380_2)).trans hx380_2; replace hx380_0 := (cell_far (p := ⟨gb379, 0, none⟩) (by first | (rw [add_block]; exact hn380_0) | (show (Addr.add _ _).block ≠ _; rw [add_block]; exact hn380_0) | exact hn380_0) (.int .i64 ((rd_T43 l0 x17_1).f0))).trans hx380_0; replace hx380_1 := (cell_far (p := ⟨gb379, 0, none⟩) (by first | (rw [add_block]; exact hn380_0) | (show (Addr.add _ _).block ≠ _; rw [add_block]; exact hn380_0) | exact hn380_0) (.int .i64 ((rd_T43 l0 x17_1).f0))).trans hx380_1; replace hx380_2 := (cell_far (p := ⟨gb379, 0, none⟩) (by first | (rw [add_block]; exact hn380_0) | (show (Addr.add _ _).block ≠ _; rw [add_block]; exact hn380_0) | exact hn380_0) (.int .i64 ((rd_T43 l0 x17_1).f0))).trans hx380_2; replace hx380_0 := (cell_far (p := ⟨gb379, 1, none⟩) (by first | (rw [add_block]; exact hn380_1) | (show (Addr.add _ _).block ≠ _; rw [add_block]; exact hn380_1) | exact hn380_1) (.int .i64 ((rd_T43 l0 x17_1).f1))).trans hx380_0; replace hx380_1 := (cell_far (p := ⟨gb379, 1, none⟩) (by first | (rw [add_block]; exact hn380_1) | (show (Addr.add _ _).block ≠ _; rw [add_block]; exact hn380_1) | exact hn380_1) (.int .i64 ((rd_T43 l0 x17_1).f1))).trans hx380_1; replace hx380_2 := (cell_far (p := ⟨gb379, 1, none⟩) (by first | (rw [add_block]; exact hn380_1) | (show (Addr.add _ _).block ≠ _; rw [add_block]; exact hn380_1) | exact hn380_1) (.int .i64 ((rd_T43 l0 x17_1).f1))).trans hx380_2; replace hx380_0 := (cell_far (p := ⟨gb379, 2, none⟩) (by first | (rw [add_block]; exact hn380_2) | (show (Addr.add _ _).block ≠ _; rw [add_block]; exact hn380_2) | exact hn380_2) (.int .i64 ((rd_T43 l0 x17_1).f2))).trans hx380_0; replace hx380_1 := (cell_far (p := ⟨gb379, 2, none⟩) (by first | (rw [add_block]; exact hn380_2) | (show (Addr.add _ _).block ≠ _; rw [add_block]; exact hn380_2) | exact hn380_2) (.int .i64 ((rd_T43 l0 x17_1).f2))).trans hx380_1; replace hx380_2 := (cell_far (p := ⟨gb379, 2, none⟩) (by first | (rw [add_block]; exact hn380_2) | (show (Addr.add _ _).block ≠ _; rw [add_block]; exact hn380_2) | exact hn380_2) (.int .i64 ((rd_T43 l0 x17_1).f2))).trans hx380_2; clear hn380_0; clear hn380_1; clear hn380_2; replace p380 := eq_true p380; replace q380 := eq_true q380) | ((with_reducible refine gate_dst (N := 9) rfl ?_); refine bx_ 9 #[.int .i64 0, .int .i64 0, .int .i64 0] 43 rfl rfl ?hr ?_; (case hr => go_simp; try rfl); intro gb381 hg w20 hbox hb; have BK381 := Aside0.mk (hbox); have GW381 := Aside0.mk ((by rw [hg]; exact (below_size (by repeat (first | (with_reducible first | exact HB.out | apply bU | apply bS GE379.out) | exact HB.out))) : w.heap.size ≤ gb381)); have GE381 := Aside0.mk ((by rw [hg]; exact (below_size (by repeat (first | (with_reducible first | exact HB.out | apply bU | apply bS GE379.out) | exact HB.out))) : w.heap.size ≤ gb381)); have NB379_381 := Aside0.mk ((by rw [hg]; exact Nat.ne_of_lt (blk_lt (g := gb379) (o := .cells #[.int .i64 ((rd_T43 l0 x17_1).f0), .int .i64 ((rd_T43 l0 x17_1).f1), .int .i64 ((rd_T43 l0 x17_1).f2)] 43 (0, 0)) (by (with_reducible repeat (first | refine blk_drewN ?_ _ | refine blk_drew ?_ | refine blk_alloc ?_ _)); refine blk_put (cs := #[.int .i64 ((rd_T43 l0 x17_1).f0), .int .i64 ((rd_T43 l0 x17_1).f1), .int .i64 0]) ?_ 2 _ rfl; (with_reducible repeat (first | refine blk_drewN ?_ _ | refine blk_drew ?_ | refine blk_alloc ?_ _)); refine blk_put (cs := #[.int .i64 ((rd_T43 l0 x17_1).f0), .int .i64 0, .int .i64 0]) ?_ 1 _ rfl; (with_reducible repeat (first | refine blk_drewN ?_ _ | refine blk_drew ?_ | refine blk_alloc ?_ _)); refine blk_put (cs := #[.int .i64 0, .int .i64 0, .int .i64 0]) ?_ 0 _ rfl; (with_reducible repeat (first | refine blk_drewN ?_ _ | refine blk_drew ?_ | refine blk_alloc ?_ _)); exact BK379.out)) : gb379 ≠ gb381)); have NB381_379 := Aside0.mk ((by rw [hg]; exact Nat.ne_of_gt (blk_lt (g := gb379) (o := .cells #[.int .i64 ((rd_T43 l0 x17_1).f0), .int .i64 ((rd_T43 l0 x17_1).f1), .int .i64 ((rd_T43 l0 x17_1).f2)] 43 (0, 0)) (by (with_reducible repeat (first | refine blk_drewN ?_ _ | refine blk_drew ?_ | refine blk_alloc ?_ _)); refine blk_put (cs := #[.int .i64 ((rd_T43 l0 x17_1).f0), .int .i64 ((rd_T43 l0 x17_1).f1), .int .i64 0]) ?_ 2 _ rfl; (with_reducible repeat (first | refine blk_drewN ?_ _ | refine blk_drew ?_ | refine blk_alloc ?_ _)); refine blk_put (cs := #[.int .i64 ((rd_T43 l0 x17_1).f0), .int .i64 0, .int .i64 0]) ?_ 1 _ rfl; (with_reducible repeat (first | refine blk_drewN ?_ _ | refine blk_drew ?_ | refine blk_alloc ?_ _)); refine blk_put (cs := #[.int .i64 0, .int .i64 0, .int .i64 0]) ?_ 0 _ rfl; (with_reducible repeat (first | refine blk_drewN ?_ _ | refine blk_drew ?_ | refine blk_alloc ?_ _)); exact BK379.out)) : gb381 ≠ gb379)); replace BK379 := Aside0.mk (blk_below (g := gb379) (o := .cells #[.int .i64 ((rd_T43 l0 x17_1).f0), .int .i64 ((rd_T43 l0 x17_1).f1), .int .i64 ((rd_T43 l0 x17_1).f2)] 43 (0, 0)) (by (with_reducible repeat (first | refine blk_drewN ?_ _ | refine blk_drew ?_ | refine blk_alloc ?_ _)); refine blk_put (cs := #[.int .i64 ((rd_T43 l0 x17_1).f0), .int .i64 ((rd_T43 l0 x17_1).f1), .int .i64 0]) ?_ 2 _ rfl; (with_reducible repeat (first | refine blk_drewN ?_ _ | refine blk_drew ?_ | refine blk_alloc ?_ _)); refine blk_put (cs := #[.int .i64 ((rd_T43 l0 x17_1).f0), .int .i64 0, .int .i64 0]) ?_ 1 _ rfl; (with_reducible repeat (first | refine blk_drewN ?_ _ | refine blk_drew ?_ | refine blk_alloc ?_ _)); refine blk_put (cs := #[.int .i64 0, .int .i64 0, .int .i64 0]) ?_ 0 _ rfl; (with_reducible repeat (first | refine blk_drewN ?_ _ | refine blk_drew ?_ | refine blk_alloc ?_ _)); exact BK379.out) hb); replace HB := Aside0.mk (below_step (by repeat (first | (with_reducible first | exact HB.out | apply bU | apply bS GE379.out) | exact HB.out)) hb); clear hb hbox hg; have hnb21 := NB381_379.out; have hnc21 := NB379_381.out; obtain ⟨hcz22_0, hcz22_1, hcz22_2, hfz22_0, hfz22_1, hfz22_2⟩ := c3_ BK381; obtain ⟨hcz23_0, hcz23_1, hcz23_2, hfz23_0, hfz23_1, hfz23_2⟩ := c3_ BK379) | ((with_reducible refine gate_tmp (s := 26) rfl ?_); refine goesT_ (some 29) rfl rfl Try.func49 (by kernel_rfl) rfl #[.agg #[.int .i64 ((rd_T43 l0 x17_1).f0), .int .i64 ((rd_T43 l0 x17_1).f1), .int .i64 ((rd_T43 l0 x17_1).f2)], .agg #[.int .i64 ((rd_T43 l1 x17_1).f0), .int .i64 ((rd_T43 l1 x17_1).f1), .int .i64 ((rd_T43 l1 x17_1).f2)]] rfl rfl (by (try simp only [List.map_toArray, List.map_cons, List.map_nil]); first | done | rfl | (simp only [List.length_drop, List.length_take]; rfl)) ?_; (with_reducible refine (lsa_Same_1.calls ((rd_T43 l0 x17_1).f0) ((rd_T43 l0 x17_1).f1) ((rd_T43 l0 x17_1).f2) ((rd_T43 l1 x17_1).f0) ((rd_T43 l1 x17_1).f1) ((rd_T43 l1 x17_1).f2) false _ A9.out).mono ?_); rintro e w24 ⟨rfl, hb⟩; refine ⟨_, rfl, ?_⟩; replace BK379 := Aside0.mk (blk_below (g := gb379) (o := .cells #[.int .i64 ((rd_T43 l0 x17_1).f0), .int .i64 ((rd_T43 l0 x17_1).f1), .int .i64 ((rd_T43 l0 x17_1).f2)] 43 (0, 0)) (by (with_reducible repeat (first | refine blk_drewN ?_ _ | refine blk_drew ?_ | refine blk_alloc ?_ _)); refine blk_far ?_ NB379_381.out _; (with_reducible repeat (first | refine blk_drewN ?_ _ | refine blk_drew ?_ | refine blk_alloc ?_ _)); refine blk_far ?_ NB379_381.out _; (with_reducible repeat (first | refine blk_drewN ?_ _ | refine blk_drew ?_ | refine blk_alloc ?_ _)); refine blk_far ?_ NB379_381.out _; (with_reducible repeat (first | refine blk_drewN ?_ _ | refine blk_drew ?_ | refine blk_alloc ?_ _)); exact BK379.out) hb); replace BK381 := Aside0.mk (blk_below (g := gb381) (o := .cells #[.int .i64 ((rd_T43 l1 x17_1).f0), .int .i64 ((rd_T43 l1 x17_1).f1), .int .i64 ((rd_T43 l1 x17_1).f2)] 43 (0, 0)) (by (with_reducible repeat (first | refine blk_drewN ?_ _ | refine blk_drew ?_ | refine blk_alloc ?_ _)); refine blk_put (cs := #[.int .i64 ((rd_T43 l1 x17_1).f0), .int .i64 ((rd_T43 l1 x17_1).f1), .int .i64 0]) ?_ 2 _ rfl; (with_reducible repeat (first | refine blk_drewN ?_ _ | refine blk_drew ?_ | refine blk_alloc ?_ _)); refine blk_put (cs := #[.int .i64 ((rd_T43 l1 x17_1).f0), .int .i64 0, .int .i64 0]) ?_ 1 _ rfl; (with_reducible repeat (first | refine blk_drewN ?_ _ | refine blk_drew ?_ | refine blk_alloc ?_ _)); refine blk_put (cs := #[.int .i64 0, .int .i64 0, .int .i64 0]) ?_ 0 _ rfl; (with_reducible repeat (first | refine blk_drewN ?_ _ | refine blk_drew ?_ | refine blk_alloc ?_ _)); exact BK381.out) hb); replace HB := Aside0.mk (below_step (by repeat (first | (with_reducible first | exact HB.out | apply bU | apply bS GE379.out | apply bS GE381.out) | exact HB.out)) hb); (try clear hb); (try clear hb2); (try clear hk); (try clear hi)))
         go_ret
         exact ⟨by first | rfl | (simp [errW_none, errW_some] <;> rfl) | (simp [*, errW_none, errW_some] <;> rfl), by repeat (first | (with_reducible first | exact HB.out | apply bU | apply bS GE379.out | apply bS GE381.out) | exact HB.out)⟩
       ·rw [if_neg c8] at H
        exact absurd H (by simp)
      ·rw [if_neg c7] at H
       exact absurd H (by simp)
     ·rw [if_neg c6] at H
      exact absurd H (by simp)
    ·rw [if_neg c5] at H
     have c5b0 : decide (x17_1 < (l0.length : Int)) = false := decide_eq_false c5
     clear c5
     obtain rfl := Option.some.inj H
     go_wp2
     go_ret
     exact ⟨by first | rfl | (simp [errW_none, errW_some] <;> rfl) | (simp [*, errW_none, errW_some] <;> rfl), kw_ HB⟩
 ·rw [if_neg c4] at H
  have c4b0 : ((l0.length : Int) == (l1.length : Int)) = false := beq_eq_false_iff_ne.mpr c4
  have c4b1 : ((l0.length : Int) != (l1.length : Int)) = true := bne_iff_ne.mpr c4
  have c4b2 : (l0.length == l1.length) = false := by first | simpa using c4 | (simp at c4 ⊢; omega)
  obtain rfl := Option.some.inj H
  go_enter Try.func51, Try.ntmps51
  go_wp2
  go_ret
  exact ⟨by first | rfl | (simp [errW_none, errW_some] <;> rfl) | (simp [*, errW_none, errW_some] <;> rfl), kw_ HB⟩

/-! ### lsa_Same_2: function 50 -/
def lsa_Same_2.f (a0_0 : Int) (a0_1 : Int) (a1_0 : Int) (a1_1 : Int) : Option (Bool) := some (a0_0 == a1_0 && (a0_1 == a1_1))
set_option maxHeartbeats 8000000 in
set_option maxRecDepth 100000 in
theorem lsa_Same_2.calls (a0_0 : Int) (a0_1 : Int) (a1_0 : Int) (a1_1 : Int) (r : Bool) (w : World) (h : lsa_Same_2.f a0_0 a0_1 a1_0 a1_1 = some r) :
  Calls Try.prog 50 #[.agg #[.int .u32 a0_0, .int .i64 a0_1], .agg #[.int .u32 a1_0, .int .i64 a1_1]] w fun e w' => e = .returned (.bool r) ∧ Below w.heap.size w w' := by
 have hu56 := Try.underlying56
 have HB := Aside0.mk (Below.refl w.heap.size w)
 have H : (some (a0_0 == a1_0 && (a0_1 == a1_1))) = some r := h
 clear h
 obtain rfl := Option.some.inj H
 go_enter Try.func50, Try.ntmps50
 go_wp2_with (first | ((with_reducible refine gate_dst (N := 2) rfl ?_); refine bx_ 2 #[.int .u32 a0_0, .int .i64 a0_1] 56 rfl rfl ?hr ?_; (case hr => go_simp; try rfl); intro gb383 hg w3 hbox hb; have BK383 := Aside0.mk (hbox); have GW383 := gs_ HB hg; have GE383 := gs_ HB hg; replace HB := bs_ HB hb; clear hb hbox hg) | ((with_reducible refine gate_dst (N := 3) rfl ?_); refine bx_ 3 #[.int .u32 a1_0, .int .i64 a1_1] 56 rfl rfl ?hr ?_; (case hr => go_simp; try rfl); intro gb384 hg w4 hbox hb; have BK384 := Aside0.mk (hbox); have GW384 := Aside0.mk ((by rw [hg]; exact (below_size (by repeat (first | (with_reducible first | exact HB.out | apply bU | apply bS GE383.out) | exact HB.out))) : w.heap.size ≤ gb384)); have GE384 := Aside0.mk ((by rw [hg]; exact (below_size (by repeat (first | (with_reducible first | exact HB.out | apply bU | apply bS GE383.out) | exact HB.out))) : w.heap.size ≤ gb384)); have NB383_384 := nl_ BK383 hg; have NB384_383 := ng_ BK383 hg; replace BK383 := bb_ BK383 hb; replace HB := Aside0.mk (below_step (by repeat (first | (with_reducible first | exact HB.out | apply bU | apply bS GE383.out) | exact HB.out)) hb); clear hb hbox hg; have hnb5 := NB383_384.out; have hnc5 := NB384_383.out; obtain ⟨hcz6_0, hcz6_1, hfz6_0, hfz6_1⟩ := c2_ BK383; obtain ⟨hcz7_0, hcz7_1, hfz7_0, hfz7_1⟩ := c2_ BK384))
 go_ret
 exact ⟨by first | rfl | (simp [errW_none, errW_some] <;> rfl) | (simp [*, errW_none, errW_some] <;> rfl), by repeat (first | (with_reducible first | exact HB.out | apply bU | apply bS GE383.out | apply bS GE384.out) | exact HB.out)⟩

/-! ### api_Prefix: function 52 -/
def api_Prefix.l0 : Nat → List (S56) → List (S56) → Int → Int → Option (Bool)
 | 0, _, _, _, _ => none
 | k + 1, x1, x15, x16, x17 => if x17 < x16 then (if 0 ≤ x17 then (if x17 < (x15.length : Int) then (if x17 < (x1.length : Int) then ((lsa_Same_2.f ((rd_T56 x15 x17).f0) ((rd_T56 x15 x17).f1) ((rd_T56 x1 x17).f0) ((rd_T56 x1 x17).f1)).bind fun t389 => (if t389 = true then (api_Prefix.l0 k x1 x15 x16 (wrap64 (x17 + 1))) else (some false))) else (none)) else (none)) else (none)) else (some true)
def api_Prefix.f (k : Nat) (l0 : List (S56)) (l1 : List (S56))  : Option (Bool) := if (l0.length : Int) = (l1.length : Int) then (api_Prefix.l0 k l1 l0 (l0.length : Int) 0) else (some false)
theorem api_Prefix.mono_l : ∀ k, (∀ y0 y1 y2 y3, LeO (api_Prefix.l0 k y0 y1 y2 y3) (api_Prefix.l0 (k + 1) y0 y1 y2 y3))
 | 0 => fun _ _ _ _ r h => by simp [api_Prefix.l0] at h
 | k + 1 => by
  have ih0 := api_Prefix.mono_l k
  ·intro y0 y1 y2 y3
   unfold api_Prefix.l0
   repeat' first
   | (with_reducible exact ih0 _ _ _ _)
   | (with_reducible exact LeO.refl _)
   | (with_reducible exact LeO.none _)
   | (with_reducible refine LeO.ite ?_ ?_)
   | (with_reducible refine LeO.bind ?_ (fun _ => ?_))
   | exact ih0 _ _ _ _
   | exact LeO.none _
   | refine LeO.ite ?_ ?_
   | refine LeO.bind ?_ (fun _ => ?_)
theorem api_Prefix.mono : ∀ a0 a1 k, LeO (api_Prefix.f k a0 a1) (api_Prefix.f (k + 1) a0 a1) := by
 intro a0 a1 k
 have ih0 := api_Prefix.mono_l k
 unfold api_Prefix.f
 repeat' first
   | (with_reducible exact ih0 _ _ _ _)
   | (with_reducible exact LeO.refl _)
   | (with_reducible exact LeO.none _)
   | (with_reducible refine LeO.ite ?_ ?_)
   | (with_reducible refine LeO.bind ?_ (fun _ => ?_))
   | exact ih0 _ _ _ _
   | exact LeO.none _
   | refine LeO.ite ?_ ?_
   | refine LeO.bind ?_ (fun _ => ?_)
set_option maxHeartbeats 8000000 in
set_option maxRecDepth 100000 in
theorem api_Prefix.calls (k : Nat) (A0 : Option Addr) (c0 : Nat) (l0 : List (S56)) (A1 : Option Addr) (c1 : Nat) (l1 : List (S56))  (r : Bool) (w : World) (hr0 : Kd.C k56 w A0 l0.length l0) (hc0 : l0.length ≤ c0) (hr1 : Kd.C k56 w A1 l1.length l1) (hc1 : l1.length ≤ c1) (h : api_Prefix.f k l0 l1 = some r) :
  Calls Try.prog 52 #[.slice A0 l0.length c0, .slice A1 l1.length c1, .func (.func 50) #[] #[]] w fun e w' => e = .returned (.bool r) ∧ Below w.heap.size w w' := by
 have hu56 := Try.underlying56
 have HR0 := Aside0.mk hr0
 have HC0 := Aside0.mk hc0
 clear hr0 hc0
 have HR1 := Aside0.mk hr1
 have HC1 := Aside0.mk hc1
 clear hr1 hc1
 have HB := Aside0.mk (Below.refl w.heap.size w)
 have H : (if (l0.length : Int) = (l1.length : Int) then (api_Prefix.l0 k l1 l0 (l0.length : Int) 0) else (some false)) = some r := h
 clear h
 by_cases c4 : (l0.length : Int) = (l1.length : Int)
 ·rw [if_pos c4] at H
  have c4b0 : ((l0.length : Int) == (l1.length : Int)) = true := beq_iff_eq.mpr c4
  have c4b1 : ((l0.length : Int) != (l1.length : Int)) = false := bne_eq_false_iff_eq.mpr c4
  have c4b2 : (l0.length == l1.length) = true := by first | simpa using c4 | (simp at c4 ⊢; omega)
  clear c4
  have H' := Aside0.mk H
  clear H
  go_enter Try.func52, Try.ntmps52
  go_wp2
  go_loopg [17] k (fun kq v17 w' => ∃ (x17_1 : Int), v17 = .int .i64 x17_1 ∧ Aside0 (api_Prefix.l0 kq l1 l0 (l0.length : Int) x17_1 = some r) ∧ Aside0 (kq ≤ k) ∧ Aside0 (Below w.heap.size w w'))
  case atStart => exact ⟨(0), (by first | rfl | (simp; done) | (simp [*]; done)), H', ⟨Nat.le_refl _⟩, ⟨kw_ HB⟩⟩
  case round =>
   clear H'
   (try clear c1); (try clear c4); (try clear c4b0); (try clear c4b1); (try clear c4b2)
   obtain ⟨x17_1, rfl, HA, HK1, HB⟩ := hrel
   cases gk with
   | zero => exact absurd HA.out (by simp [api_Prefix.l0])
   | succ k1 =>
    have H := HA.out
    clear HA
    simp only [api_Prefix.l0] at H
    by_cases c5 : x17_1 < (l0.length : Int)
    ·rw [if_pos c5] at H
     have c5b0 : decide (x17_1 < (l0.length : Int)) = true := decide_eq_true c5
     clear c5
     by_cases c6 : 0 ≤ x17_1
     ·rw [if_pos c6] at H
      have c6b0 : decide (0 ≤ x17_1) = true := decide_eq_true c6
      clear c6
      by_cases c7 : x17_1 < (l0.length : Int)
      ·rw [if_pos c7] at H
       have c7b0 : decide (x17_1 < (l0.length : Int)) = true := decide_eq_true c7
       clear c7
       by_cases c8 : x17_1 < (l1.length : Int)
       ·rw [if_pos c8] at H
        have c8b0 : decide (x17_1 < (l1.length : Int)) = true := decide_eq_true c8
        clear c8
        replace H := Option.bind_eq_some_iff.mp H
        obtain ⟨t389, A90, H⟩ := H
        replace H : (if t389 = true then (api_Prefix.l0 k1 l1 l0 (l0.length : Int) (wrap64 (x17_1 + 1))) else (some false)) = some r := H
        have A9 := Aside0.mk A90
        clear A90
        by_cases c10 : t389 = true
        ·subst c10
         have H1 : (api_Prefix.l0 k1 l1 l0 (l0.length : Int) (wrap64 (x17_1 + 1))) = some r := by rw [if_pos rfl] at H; exact H
         clear H
         have H := H1
         clear H1
         have H' := Aside0.mk H
         clear H
         have p385 : 0 ≤ (x17_1 : Int) := of_decide_eq_true (by first | (with_reducible assumption) | assumption)
         have q385 : x17_1 < (l0.length : Int) := of_decide_eq_true (by first | (with_reducible assumption) | assumption)
         obtain ⟨ad385, e385, hx385_0, hx385_1⟩ := at_T56 HR0.out x17_1 p385 q385
         cases e385
         replace hx385_0 := (HB.out.cell (World.block_lt_of_cell? w _ hx385_0)).trans hx385_0
         replace hx385_1 := (HB.out.cell (World.block_lt_of_cell? w _ hx385_1)).trans hx385_1
         replace p385 := eq_true p385
         replace q385 := eq_true q385
         go_wp2_with (first | ((with_reducible refine gate_dst (N := 8) rfl ?_); refine bx_ 8 #[.int .u32 0, .int .i64 0] 56 rfl rfl ?hr ?_; (case hr => go_simp; try rfl); intro gb386 hg w11 hbox hb; have BK386 := Aside0.mk (hbox); have GW386 := gs_ HB hg; have GE386 := gs_ HB hg; replace HB := bs_ HB hb; clear hb hbox hg; obtain ⟨hcz12_0, hcz12_1, hfz12_0, hfz12_1⟩ := c2_ BK386; have p387 : 0 ≤ (x17_1 : Int) := of_decide_eq_true (by first | (with_reducible assumption) | assumption); have q387 : x17_1 < (l1.length : Int) := of_decide_eq_true (by first | (with_reducible assumption) | assumption); obtain ⟨ad387, e387, hx387_0, hx387_1⟩ := at_T56 HR1.out x17_1 p387 q387; cases e387; have hn387_0 : ad387.block ≠ gb386 := Nat.ne_of_lt (Nat.lt_of_lt_of_le (by have := World.block_lt_of_cell? _ _ hx387_0; first | rwa [add_block] at this | exact this) GW386.out); have hn387_1 : ad387.block ≠ gb386 := Nat.ne_of_lt (Nat.lt_of_lt_of_le (by have := World.block_lt_of_cell? _ _ hx387_0; first | rwa [add_block] at this | exact this) GW386.out); replace hx387_0 := (HB.out.cell (World.block_lt_of_cell? w _ hx387_0)).trans hx387_0; replace hx387_1 := (HB.out.cell (World.block_lt_of_cell? w _ hx387_1)).trans hx387_1; replace hx387_0 := (cell_far (p := ⟨gb386, 0, none⟩) (by first | (rw [add_block]; exact hn387_0) | (show (Addr.add _ _).block ≠ _; rw [add_block]; exact hn387_0) | exact hn387_0) (.int .u32 ((rd_T56 l0 x17_1).f0))).trans hx387_0; replace hx387_1 := (cell_far (p := ⟨gb386, 0, none⟩) (by first | (rw [add_block]; exact hn387_0) | (show (Addr.add _ _).block ≠ _; rw [add_block]; exact hn387_0) | exact hn387_0) (.int .u32 ((rd_T56 l0 x17_1).f0))).trans hx387_1; replace hx387_0 := (cell_far (p := ⟨gb386, 1, none⟩) (by first | (rw [add_block]; exact hn387_1) | (show (Addr.add _ _).block ≠ _; rw [add_block]; exact hn387_1) | exact hn387_1) (.int .i64 ((rd_T56 l0 x17_1).f1))).trans hx387_0; replace hx387_1 := (cell_far (p := ⟨gb386, 1, none⟩) (by first | (rw [add_block]; exact hn387_1) | (show (Addr.add _ _).block ≠ _; rw [add_block]; exact hn387_1) | exact hn387_1) (.int .i64 ((rd_T56 l0 x17_1).f1))).trans hx387_1; clear hn387_0; clear hn387_1; replace p387 := eq_true p387; replace q387 := eq_true q387) | ((with_reducible refine gate_dst (N := 9) rfl ?_); refine bx_ 9 #[.int .u32 0, .int .i64 0] 56 rfl rfl ?hr ?_; (case hr => go_simp; try rfl); intro gb388 hg w13 hbox hb; have BK388 := Aside0.mk (hbox); have GW388 := Aside0.mk ((by rw [hg]; exact (below_size (by repeat (first | (with_reducible first | exact HB.out | apply bU | apply bS GE386.out) | exact HB.out))) : w.heap.size ≤ gb388)); have GE388 := Aside0.mk ((by rw [hg]; exact (below_size (by repeat (first | (with_reducible first | exact HB.out | apply bU | apply bS GE386.out) | exact HB.out))) : w.heap.size ≤ gb388)); have NB386_388 := Aside0.mk ((by rw [hg]; exact Nat.ne_of_lt (blk_lt (g := gb386) (o := .cells #[.int .u32 ((rd_T56 l0 x17_1).f0), .int .i64 ((rd_T56 l0 x17_1).f1)] 56 (0, 0)) (by (with_reducible repeat (first | refine blk_drewN ?_ _ | refine blk_drew ?_ | refine blk_alloc ?_ _)); refine blk_put (cs := #[.int .u32 ((rd_T56 l0 x17_1).f0), .int .i64 0]) ?_ 1 _ rfl; (with_reducible repeat (first | refine blk_drewN ?_ _ | refine blk_drew ?_ | refine blk_alloc ?_ _)); refine blk_put (cs := #[.int .u32 0, .int .i64 0]) ?_ 0 _ rfl; (with_reducible repeat (first | refine blk_drewN ?_ _ | refine blk_drew ?_ | refine blk_alloc ?_ _)); exact BK386.out)) : gb386 ≠ gb388)); have NB388_386 := Aside0.mk ((by rw [hg]; exact Nat.ne_of_gt (blk_lt (g := gb386) (o := .cells #[.int .u32 ((rd_T56 l0 x17_1).f0), .int .i64 ((rd_T56 l0 x17_1).f1)] 56 (0, 0)) (by (with_reducible repeat (first | refine blk_drewN ?_ _ | refine blk_drew ?_ | refine blk_alloc ?_ _)); refine blk_put (cs := #[.int .u32 ((rd_T56 l0 x17_1).f0), .int .i64 0]) ?_ 1 _ rfl; (with_reducible repeat (first | refine blk_drewN ?_ _ | refine blk_drew ?_ | refine blk_alloc ?_ _)); refine blk_put (cs := #[.int .u32 0, .int .i64 0]) ?_ 0 _ rfl; (with_reducible repeat (first | refine blk_drewN ?_ _ | refine blk_drew ?_ | refine blk_alloc ?_ _)); exact BK386.out)) : gb388 ≠ gb386)); replace BK386 := Aside0.mk (blk_below (g := gb386) (o := .cells #[.int .u32 ((rd_T56 l0 x17_1).f0), .int .i64 ((rd_T56 l0 x17_1).f1)] 56 (0, 0)) (by (with_reducible repeat (first | refine blk_drewN ?_ _ | refine blk_drew ?_ | refine blk_alloc ?_ _)); refine blk_put (cs := #[.int .u32 ((rd_T56 l0 x17_1).f0), .int .i64 0]) ?_ 1 _ rfl; (with_reducible repeat (first | refine blk_drewN ?_ _ | refine blk_drew ?_ | refine blk_alloc ?_ _)); refine blk_put (cs := #[.int .u32 0, .int .i64 0]) ?_ 0 _ rfl; (with_reducible repeat (first | refine blk_drewN ?_ _ | refine blk_drew ?_ | refine blk_alloc ?_ _)); exact BK386.out) hb); replace HB := Aside0.mk (below_step (by repeat (first | (with_reducible first | exact HB.out | apply bU | apply bS GE386.out) | exact HB.out)) hb); clear hb hbox hg; have hnb14 := NB388_386.out; have hnc14 := NB386_388.out; obtain ⟨hcz15_0, hcz15_1, hfz15_0, hfz15_1⟩ := c2_ BK388; obtain ⟨hcz16_0, hcz16_1, hfz16_0, hfz16_1⟩ := c2_ BK386) | ((with_reducible refine gate_tmp (s := 26) rfl ?_); refine goesT_ (some 29) rfl rfl Try.func50 (by kernel_rfl) rfl #[.agg #[.int .u32 ((rd_T56 l0 x17_1).f0), .int .i64 ((rd_T56 l0 x17_1).f1)], .agg #[.int .u32 ((rd_T56 l1 x17_1).f0), .int .i64 ((rd_T56 l1 x17_1).f1)]] rfl rfl (by (try simp only [List.map_toArray, List.map_cons, List.map_nil]); first | done | rfl | (simp only [List.length_drop, List.length_take]; rfl)) ?_; (with_reducible refine (lsa_Same_2.calls ((rd_T56 l0 x17_1).f0) ((rd_T56 l0 x17_1).f1) ((rd_T56 l1 x17_1).f0) ((rd_T56 l1 x17_1).f1) true _ A9.out).mono ?_); rintro e w17 ⟨rfl, hb⟩; refine ⟨_, rfl, ?_⟩; replace BK386 := Aside0.mk (blk_below (g := gb386) (o := .cells #[.int .u32 ((rd_T56 l0 x17_1).f0), .int .i64 ((rd_T56 l0 x17_1).f1)] 56 (0, 0)) (by (with_reducible repeat (first | refine blk_drewN ?_ _ | refine blk_drew ?_ | refine blk_alloc ?_ _)); refine blk_far ?_ NB386_388.out _; (with_reducible repeat (first | refine blk_drewN ?_ _ | refine blk_drew ?_ | refine blk_alloc ?_ _)); refine blk_far ?_ NB386_388.out _; (with_reducible repeat (first | refine blk_drewN ?_ _ | refine blk_drew ?_ | refine blk_alloc ?_ _)); exact BK386.out) hb); replace BK388 := Aside0.mk (blk_below (g := gb388) (o := .cells #[.int .u32 ((rd_T56 l1 x17_1).f0), .int .i64 ((rd_T56 l1 x17_1).f1)] 56 (0, 0)) (by (with_reducible repeat (first | refine blk_drewN ?_ _ | refine blk_drew ?_ | refine blk_alloc ?_ _)); refine blk_put (cs := #[.int .u32 ((rd_T56 l1 x17_1).f0), .int .i64 0]) ?_ 1 _ rfl; (with_reducible repeat (first | refine blk_drewN ?_ _ | refine blk_drew ?_ | refine blk_alloc ?_ _)); refine blk_put (cs := #[.int .u32 0, .int .i64 0]) ?_ 0 _ rfl; (with_reducible repeat (first | refine blk_drewN ?_ _ | refine blk_drew ?_ | refine blk_alloc ?_ _)); exact BK388.out) hb); replace HB := Aside0.mk (below_step (by repeat (first | (with_reducible first | exact HB.out | apply bU | apply bS GE386.out | apply bS GE388.out) | exact HB.out)) hb); (try clear hb); (try clear hb2); (try clear hk); (try clear hi)))
         go_roundg k1
         case measure => have := HK1.out; omega
         case rel => exact ⟨(wrap64 (x17_1 + 1)), (by first | rfl | (simp; done) | (simp [*]; done)), H', ⟨by have := HK1.out; omega⟩, ⟨by repeat (first | (with_reducible first | exact HB.out | apply bU | apply bS GE386.out | apply bS GE388.out) | exact HB.out)⟩⟩
        ·replace c10 := Bool.eq_false_iff.mpr c10
         subst c10
         have H1 : (some false) = some r := by rw [if_neg (show ¬ (false = true) by decide)] at H; exact H
         clear H
         have H := H1
         clear H1
         obtain rfl := Option.some.inj H
         have p385 : 0 ≤ (x17_1 : Int) := of_decide_eq_true (by first | (with_reducible assumption) | assumption)
         have q385 : x17_1 < (l0.length : Int) := of_decide_eq_true (by first | (with_reducible assumption) | assumption)
         obtain ⟨ad385, e385, hx385_0, hx385_1⟩ := at_T56 HR0.out x17_1 p385 q385
         cases e385
         replace hx385_0 := (HB.out.cell (World.block_lt_of_cell? w _ hx385_0)).trans hx385_0
         replace hx385_1 := (HB.out.cell (World.block_lt_of_cell? w _ hx385_1)).trans hx385_1
         replace p385 := eq_true p385
         replace q385 := eq_true q385
         go_wp2_with (first | ((with_reducible refine gate_dst (N := 8) rfl ?_); refine bx_ 8 #[.int .u32 0, .int .i64 0] 56 rfl rfl ?hr ?_; (case hr => go_simp; try rfl); intro gb386 hg w18 hbox hb; have BK386 := Aside0.mk (hbox); have GW386 := gs_ HB hg; have GE386 := gs_ HB hg; replace HB := bs_ HB hb; clear hb hbox hg; obtain ⟨hcz19_0, hcz19_1, hfz19_0, hfz19_1⟩ := c2_ BK386; have p387 : 0 ≤ (x17_1 : Int) := of_decide_eq_true (by first | (with_reducible assumption) | assumption); have q387 : x17_1 < (l1.length : Int) := of_decide_eq_true (by first | (with_reducible assumption) | assumption); obtain ⟨ad387, e387, hx387_0, hx387_1⟩ := at_T56 HR1.out x17_1 p387 q387; cases e387; have hn387_0 : ad387.block ≠ gb386 := Nat.ne_of_lt (Nat.lt_of_lt_of_le (by have := World.block_lt_of_cell? _ _ hx387_0; first | rwa [add_block] at this | exact this) GW386.out); have hn387_1 : ad387.block ≠ gb386 := Nat.ne_of_lt (Nat.lt_of_lt_of_le (by have := World.block_lt_of_cell? _ _ hx387_0; first | rwa [add_block] at this | exact this) GW386.out); replace hx387_0 := (HB.out.cell (World.block_lt_of_cell? w _ hx387_0)).trans hx387_0; replace hx387_1 := (HB.out.cell (World.block_lt_of_cell? w _ hx387_1)).trans hx387_1; replace hx387_0 := (cell_far (p := ⟨gb386, 0, none⟩) (by first | (rw [add_block]; exact hn387_0) | (show (Addr.add _ _).block ≠ _; rw [add_block]; exact hn387_0) | exact hn387_0) (.int .u32 ((rd_T56 l0 x17_1).f0))).trans hx387_0; replace hx387_1 := (cell_far (p := ⟨gb386, 0, none⟩) (by first | (rw [add_block]; exact hn387_0) | (show (Addr.add _ _).block ≠ _; rw [add_block]; exact hn387_0) | exact hn387_0) (.int .u32 ((rd_T56 l0 x17_1).f0))).trans hx387_1; replace hx387_0 := (cell_far (p := ⟨gb386, 1, none⟩) (by first | (rw [add_block]; exact hn387_1) | (show (Addr.add _ _).block ≠ _; rw [add_block]; exact hn387_1) | exact hn387_1) (.int .i64 ((rd_T56 l0 x17_1).f1))).trans hx387_0; replace hx387_1 := (cell_far (p := ⟨gb386, 1, none⟩) (by first | (rw [add_block]; exact hn387_1) | (show (Addr.add _ _).block ≠ _; rw [add_block]; exact hn387_1) | exact hn387_1) (.int .i64 ((rd_T56 l0 x17_1).f1))).trans hx387_1; clear hn387_0; clear hn387_1; replace p387 := eq_true p387; replace q387 := eq_true q387) | ((with_reducible refine gate_dst (N := 9) rfl ?_); refine bx_ 9 #[.int .u32 0, .int .i64 0] 56 rfl rfl ?hr ?_; (case hr => go_simp; try rfl); intro gb388 hg w20 hbox hb; have BK388 := Aside0.mk (hbox); have GW388 := Aside0.mk ((by rw [hg]; exact (below_size (by repeat (first | (with_reducible first | exact HB.out | apply bU | apply bS GE386.out) | exact HB.out))) : w.heap.size ≤ gb388)); have GE388 := Aside0.mk ((by rw [hg]; exact (below_size (by repeat (first | (with_reducible first | exact HB.out | apply bU | apply bS GE386.out) | exact HB.out))) : w.heap.size ≤ gb388)); have NB386_388 := Aside0.mk ((by rw [hg]; exact Nat.ne_of_lt (blk_lt (g := gb386) (o := .cells #[.int .u32 ((rd_T56 l0 x17_1).f0), .int .i64 ((rd_T56 l0 x17_1).f1)] 56 (0, 0)) (by (with_reducible repeat (first | refine blk_drewN ?_ _ | refine blk_drew ?_ | refine blk_alloc ?_ _)); refine blk_put (cs := #[.int .u32 ((rd_T56 l0 x17_1).f0), .int .i64 0]) ?_ 1 _ rfl; (with_reducible repeat (first | refine blk_drewN ?_ _ | refine blk_drew ?_ | refine blk_alloc ?_ _)); refine blk_put (cs := #[.int .u32 0, .int .i64 0]) ?_ 0 _ rfl; (with_reducible repeat (first | refine blk_drewN ?_ _ | refine blk_drew ?_ | refine blk_alloc ?_ _)); exact BK386.out)) : gb386 ≠ gb388)); have NB388_386 := Aside0.mk ((by rw [hg]; exact Nat.ne_of_gt (blk_lt (g := gb386) (o := .cells #[.int .u32 ((rd_T56 l0 x17_1).f0), .int .i64 ((rd_T56 l0 x17_1).f1)] 56 (0, 0)) (by (with_reducible repeat (first | refine blk_drewN ?_ _ | refine blk_drew ?_ | refine blk_alloc ?_ _)); refine blk_put (cs := #[.int .u32 ((rd_T56 l0 x17_1).f0), .int .i64 0]) ?_ 1 _ rfl; (with_reducible repeat (first | refine blk_drewN ?_ _ | refine blk_drew ?_ | refine blk_alloc ?_ _)); refine blk_put (cs := #[.int .u32 0, .int .i64 0]) ?_ 0 _ rfl; (with_reducible repeat (first | refine blk_drewN ?_ _ | refine blk_drew ?_ | refine blk_alloc ?_ _)); exact BK386.out)) : gb388 ≠ gb386)); replace BK386 := Aside0.mk (blk_below (g := gb386) (o := .cells #[.int .u32 ((rd_T56 l0 x17_1).f0), .int .i64 ((rd_T56 l0 x17_1).f1)] 56 (0, 0)) (by (with_reducible repeat (first | refine blk_drewN ?_ _ | refine blk_drew ?_ | refine blk_alloc ?_ _)); refine blk_put (cs := #[.int .u32 ((rd_T56 l0 x17_1).f0), .int .i64 0]) ?_ 1 _ rfl; (with_reducible repeat (first | refine blk_drewN ?_ _ | refine blk_drew ?_ | refine blk_alloc ?_ _)); refine blk_put (cs := #[.int .u32 0, .int .i64 0]) ?_ 0 _ rfl; (with_reducible repeat (first | refine blk_drewN ?_ _ | refine blk_drew ?_ | refine blk_alloc ?_ _)); exact BK386.out) hb); replace HB := Aside0.mk (below_step (by repeat (first | (with_reducible first | exact HB.out | apply bU | apply bS GE386.out) | exact HB.out)) hb); clear hb hbox hg; have hnb21 := NB388_386.out; have hnc21 := NB386_388.out; obtain ⟨hcz22_0, hcz22_1, hfz22_0, hfz22_1⟩ := c2_ BK388; obtain ⟨hcz23_0, hcz23_1, hfz23_0, hfz23_1⟩ := c2_ BK386) | ((with_reducible refine gate_tmp (s := 26) rfl ?_); refine goesT_ (some 29) rfl rfl Try.func50 (by kernel_rfl) rfl #[.agg #[.int .u32 ((rd_T56 l0 x17_1).f0), .int .i64 ((rd_T56 l0 x17_1).f1)], .agg #[.int .u32 ((rd_T56 l1 x17_1).f0), .int .i64 ((rd_T56 l1 x17_1).f1)]] rfl rfl (by (try simp only [List.map_toArray, List.map_cons, List.map_nil]); first | done | rfl | (simp only [List.length_drop, List.length_take]; rfl)) ?_; (with_reducible refine (lsa_Same_2.calls ((rd_T56 l0 x17_1).f0) ((rd_T56 l0 x17_1).f1) ((rd_T56 l1 x17_1).f0) ((rd_T56 l1 x17_1).f1) false _ A9.out).mono ?_); rintro e w24 ⟨rfl, hb⟩; refine ⟨_, rfl, ?_⟩; replace BK386 := Aside0.mk (blk_below (g := gb386) (o := .cells #[.int .u32 ((rd_T56 l0 x17_1).f0), .int .i64 ((rd_T56 l0 x17_1).f1)] 56 (0, 0)) (by (with_reducible repeat (first | refine blk_drewN ?_ _ | refine blk_drew ?_ | refine blk_alloc ?_ _)); refine blk_far ?_ NB386_388.out _; (with_reducible repeat (first | refine blk_drewN ?_ _ | refine blk_drew ?_ | refine blk_alloc ?_ _)); refine blk_far ?_ NB386_388.out _; (with_reducible repeat (first | refine blk_drewN ?_ _ | refine blk_drew ?_ | refine blk_alloc ?_ _)); exact BK386.out) hb); replace BK388 := Aside0.mk (blk_below (g := gb388) (o := .cells #[.int .u32 ((rd_T56 l1 x17_1).f0), .int .i64 ((rd_T56 l1 x17_1).f1)] 56 (0, 0)) (by (with_reducible repeat (first | refine blk_drewN ?_ _ | refine blk_drew ?_ | refine blk_alloc ?_ _)); refine blk_put (cs := #[.int .u32 ((rd_T56 l1 x17_1).f0), .int .i64 0]) ?_ 1 _ rfl; (with_reducible repeat (first | refine blk_drewN ?_ _ | refine blk_drew ?_ | refine blk_alloc ?_ _)); refine blk_put (cs := #[.int .u32 0, .int .i64 0]) ?_ 0 _ rfl; (with_reducible repeat (first | refine blk_drewN ?_ _ | refine blk_drew ?_ | refine blk_alloc ?_ _)); exact BK388.out) hb); replace HB := Aside0.mk (below_step (by repeat (first | (with_reducible first | exact HB.out | apply bU | apply bS GE386.out | apply bS GE388.out) | exact HB.out)) hb); (try clear hb); (try clear hb2); (try clear hk); (try clear hi)))
         go_ret
         exact ⟨by first | rfl | (simp [errW_none, errW_some] <;> rfl) | (simp [*, errW_none, errW_some] <;> rfl), by repeat (first | (with_reducible first | exact HB.out | apply bU | apply bS GE386.out | apply bS GE388.out) | exact HB.out)⟩
       ·rw [if_neg c8] at H
        exact absurd H (by simp)
      ·rw [if_neg c7] at H
       exact absurd H (by simp)
     ·rw [if_neg c6] at H
      exact absurd H (by simp)
    ·rw [if_neg c5] at H
     have c5b0 : decide (x17_1 < (l0.length : Int)) = false := decide_eq_false c5
     clear c5
     obtain rfl := Option.some.inj H
     go_wp2
     go_ret
     exact ⟨by first | rfl | (simp [errW_none, errW_some] <;> rfl) | (simp [*, errW_none, errW_some] <;> rfl), kw_ HB⟩
 ·rw [if_neg c4] at H
  have c4b0 : ((l0.length : Int) == (l1.length : Int)) = false := beq_eq_false_iff_ne.mpr c4
  have c4b1 : ((l0.length : Int) != (l1.length : Int)) = true := bne_iff_ne.mpr c4
  have c4b2 : (l0.length == l1.length) = false := by first | simpa using c4 | (simp at c4 ⊢; omega)
  obtain rfl := Option.some.inj H
  go_enter Try.func52, Try.ntmps52
  go_wp2
  go_ret
  exact ⟨by first | rfl | (simp [errW_none, errW_some] <;> rfl) | (simp [*, errW_none, errW_some] <;> rfl), kw_ HB⟩

end Go.Proofs.Ytmknjjfdlkgidaa.HLsc
