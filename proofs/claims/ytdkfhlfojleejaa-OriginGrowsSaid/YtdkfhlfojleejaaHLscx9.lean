-- LAID by wip/hand.py, a program of this repository, over the kit's print: contracts of our own are put in. Lean checks it.
import Derived.Test.YtdkfhlfojleejaaHLscx0
import Derived.Test.YtdkfhlfojleejaaHLscx2
import Derived.Test.YtdkfhlfojleejaaHLscx8
namespace Go.Proofs.Ytdkfhlfojleejaa.HLsc
open Go.RowKit Go.Proofs.YtdkfhlfojleejaaW.PrintWords Go.Proofs.YtdkfhlfojleejaaW.PrintLast Go.Proofs.YtdkfhlfojleejaaW.PrintMore
attribute [local go_sem] gtr_str leq_str max2_int min2_int max_two min_two max_three min_three max_four min_four   -- for this text's walks alone
set_option linter.unusedVariables false
set_option linter.unusedSimpArgs false

attribute [local go_sem high] eqA76
/-! ### api_Adjacency_48: function 48 -/
def api_Adjacency_48.l0 : Nat → List (S72) → List (S72) → Int → Int → Option (Bool)
 | 0, _, _, _, _ => none
 | k + 1, x1, x15, x16, x17 => if x17 < x16 then (if 0 ≤ x17 then (if x17 < (x15.length : Int) then (if x17 < (x1.length : Int) then ((lsa_Same_1.f ((rd_T72 x15 x17).f0) ((rd_T72 x15 x17).f1) ((rd_T72 x15 x17).f2) ((rd_T72 x1 x17).f0) ((rd_T72 x1 x17).f1) ((rd_T72 x1 x17).f2)).bind fun t263 => (if t263 = true then (api_Adjacency_48.l0 k x1 x15 x16 (wrap64 (x17 + 1))) else (some false))) else (none)) else (none)) else (none)) else (some true)
def api_Adjacency_48.f (k : Nat) (l0 : List (S72)) (l1 : List (S72))  : Option (Bool) := if (l0.length : Int) = (l1.length : Int) then (api_Adjacency_48.l0 k l1 l0 (l0.length : Int) 0) else (some false)
theorem api_Adjacency_48.mono_l : ∀ k, (∀ y0 y1 y2 y3, LeO (api_Adjacency_48.l0 k y0 y1 y2 y3) (api_Adjacency_48.l0 (k + 1) y0 y1 y2 y3))
 | 0 => fun _ _ _ _ r h => by simp [api_Adjacency_48.l0] at h
 | k + 1 => by
  have ih0 := api_Adjacency_48.mono_l k
  ·intro y0 y1 y2 y3
   unfold api_Adjacency_48.l0
   repeat' first
   | (with_reducible exact ih0 _ _ _ _)
   | (with_reducible exact LeO.refl _)
   | (with_reducible exact LeO.none _)
   | (with_reducible refine LeO.ite ?_ ?_)
   | (with_reducible refine LeO.bind ?_ (fun _ => ?_))
   | exact ih0 _ _ _ _
   | exact LeO.none _
   | refine LeO.ite ?_ ?_
   | refine LeO.bind ?_ (fun _ => ?_)
theorem api_Adjacency_48.mono : ∀ a0 a1 k, LeO (api_Adjacency_48.f k a0 a1) (api_Adjacency_48.f (k + 1) a0 a1) := by
 intro a0 a1 k
 have ih0 := api_Adjacency_48.mono_l k
 unfold api_Adjacency_48.f
 repeat' first
   | (with_reducible exact ih0 _ _ _ _)
   | (with_reducible exact LeO.refl _)
   | (with_reducible exact LeO.none _)
   | (with_reducible refine LeO.ite ?_ ?_)
   | (with_reducible refine LeO.bind ?_ (fun _ => ?_))
   | exact ih0 _ _ _ _
   | exact LeO.none _
   | refine LeO.ite ?_ ?_
   | refine LeO.bind ?_ (fun _ => ?_)
set_option maxHeartbeats 8000000 in
set_option maxRecDepth 100000 in
theorem api_Adjacency_48.calls (k : Nat) (A0 : Option Addr) (c0 : Nat) (l0 : List (S72)) (A1 : Option Addr) (c1 : Nat) (l1 : List (S72))  (r : Bool) (w : World) (hr0 : Kd.C k72 w A0 l0.length l0) (hc0 : l0.length ≤ c0) (hr1 : Kd.C k72 w A1 l1.length l1) (hc1 : l1.length ≤ c1) (h : api_Adjacency_48.f k l0 l1 = some r) :
  Calls Try.prog 48 #[.slice A0 l0.length c0, .slice A1 l1.length c1, .func (.func 46) #[] #[]] w fun e w' => e = .returned (.bool r) ∧ Below w.heap.size w w' := by
 have hu72 := Try.underlying72
 have HR0 := Aside0.mk hr0
 have HC0 := Aside0.mk hc0
 clear hr0 hc0
 have HR1 := Aside0.mk hr1
 have HC1 := Aside0.mk hc1
 clear hr1 hc1
 have HB := Aside0.mk (Below.refl w.heap.size w)
 have H : (if (l0.length : Int) = (l1.length : Int) then (api_Adjacency_48.l0 k l1 l0 (l0.length : Int) 0) else (some false)) = some r := h
 clear h
 by_cases c4 : (l0.length : Int) = (l1.length : Int)
 ·rw [if_pos c4] at H
  have c4b0 : ((l0.length : Int) == (l1.length : Int)) = true := beq_iff_eq.mpr c4
  have c4b1 : ((l0.length : Int) != (l1.length : Int)) = false := bne_eq_false_iff_eq.mpr c4
  have c4b2 : (l0.length == l1.length) = true := by first | simpa using c4 | (simp at c4 ⊢; omega)
  clear c4
  have H' := Aside0.mk H
  clear H
  go_enter Try.func48, Try.ntmps48
  go_wp2
  go_loopg [17] k (fun kq v17 w' => ∃ (x17_1 : Int), v17 = .int .i64 x17_1 ∧ Aside0 (api_Adjacency_48.l0 kq l1 l0 (l0.length : Int) x17_1 = some r) ∧ Aside0 (kq ≤ k) ∧ Aside0 (Below w.heap.size w w'))
  case atStart => exact ⟨(0), (by first | rfl | (simp; done) | (simp [*]; done)), H', ⟨Nat.le_refl _⟩, ⟨kw_ HB⟩⟩
  case round =>
   clear H'
   (try clear c1); (try clear c4); (try clear c4b0); (try clear c4b1); (try clear c4b2)
   obtain ⟨x17_1, rfl, HA, HK1, HB⟩ := hrel
   cases gk with
   | zero => exact absurd HA.out (by simp [api_Adjacency_48.l0])
   | succ k1 =>
    have H := HA.out
    clear HA
    simp only [api_Adjacency_48.l0] at H
    by_cases c5 : x17_1 < (l0.length : Int)
    ·rw [if_pos c5] at H
     have c5b0 : decide (x17_1 < (l0.length : Int)) = true := decide_eq_true c5
     clear c5
     by_cases c6 : 0 ≤ x17_1
     ·rw [if_pos c6] at H
      have c6b0 : decide (0 ≤ x17_1) = true := decide_eq_true c6
      clear c6
      by_cases c7 : x17_1 < (l0.length : Int)
      ·rw [if_pos c7] at H
       have c7b0 : decide (x17_1 < (l0.length : Int)) = true := decide_eq_true c7
       clear c7
       by_cases c8 : x17_1 < (l1.length : Int)
       ·rw [if_pos c8] at H
        have c8b0 : decide (x17_1 < (l1.length : Int)) = true := decide_eq_true c8
        clear c8
        replace H := Option.bind_eq_some_iff.mp H
        obtain ⟨t263, A90, H⟩ := H
        replace H : (if t263 = true then (api_Adjacency_48.l0 k1 l1 l0 (l0.length : Int) (wrap64 (x17_1 + 1))) else (some false)) = some r := H
        have A9 := Aside0.mk A90
        clear A90
        by_cases c10 : t263 = true
        ·subst c10
         have H1 : (api_Adjacency_48.l0 k1 l1 l0 (l0.length : Int) (wrap64 (x17_1 + 1))) = some r := by rw [if_pos rfl] at H; exact H
         clear H
         have H := H1
         clear H1
         have H' := Aside0.mk H
         clear H
         have p259 : 0 ≤ (x17_1 : Int) := of_decide_eq_true (by first | (with_reducible assumption) | assumption)
         have q259 : x17_1 < (l0.length : Int) := of_decide_eq_true (by first | (with_reducible assumption) | assumption)
         obtain ⟨ad259, e259, hx259_0, hx259_1, hx259_2⟩ := at_T72 HR0.out x17_1 p259 q259
         cases e259
         replace hx259_0 := (HB.out.cell (World.block_lt_of_cell? w _ hx259_0)).trans hx259_0
         replace hx259_1 := (HB.out.cell (World.block_lt_of_cell? w _ hx259_1)).trans hx259_1
         replace hx259_2 := (HB.out.cell (World.block_lt_of_cell? w _ hx259_2)).trans hx259_2
         replace p259 := eq_true p259
         replace q259 := eq_true q259
         go_wp2_with (first | ((with_reducible refine gate_dst (N := 8) rfl ?_); refine bx_ 8 #[.int .i64 0, .int .i64 0, .int .i64 0] 72 rfl rfl ?hr ?_; (case hr => go_simp; try rfl); intro gb260 hg w11 hbox hb; have BK260 := Aside0.mk (hbox); have GW260 := gs_ HB hg; have GE260 := gs_ HB hg; replace HB := bs_ HB hb; clear hb hbox hg; obtain ⟨hcz12_0, hcz12_1, hcz12_2, hfz12_0, hfz12_1, hfz12_2⟩ := c3_ BK260; have p261 : 0 ≤ (x17_1 : Int) := of_decide_eq_true (by first | (with_reducible assumption) | assumption); have q261 : x17_1 < (l1.length : Int) := of_decide_eq_true (by first | (with_reducible assumption) | assumption); obtain ⟨ad261, e261, hx261_0, hx261_1, hx261_2⟩ := at_T72 HR1.out x17_1 p261 q261; cases e261; have hn261_0 : ad261.block ≠ gb260 := Nat.ne_of_lt (Nat.lt_of_lt_of_le (by have := World.block_lt_of_cell? _ _ hx261_0; first | rwa [add_block] at this | exact this) GW260.out); have hn261_1 : ad261.block ≠ gb260 := Nat.ne_of_lt (Nat.lt_of_lt_of_le (by have := World.block_lt_of_cell? _ _ hx261_0; first | rwa [add_block] at this | exact this) GW260.out); have hn261_2 : ad261.block ≠ gb260 := Nat.ne_of_lt (Nat.lt_of_lt_of_le (by have := World.block_lt_of_cell? _ _ hx261_0; first | rwa [add_block] at this | exact this) GW260.out); replace hx261_0 := (HB.out.cell (World.block_lt_of_cell? w _ hx261_0)).trans hx261_0; replace hx261_1 := (HB.out.cell (World.block_lt_of_cell? w _ hx261_1)).trans hx261_1; replace hx261_2 := (HB.out.cell (World.block_lt_of_cell? w _ hx261_2)).trans hx261_2; replace hx261_0 := (cell_far (p := ⟨gb260, 0, none⟩) (by first | (rw [add_block]; exact hn261_0) | (show (Addr.add _ _).block ≠ _; rw [add_block]; exact hn261_0) | exact hn261_0) (.int .i64 ((rd_T72 l0 x17_1).f0))).trans hx261_0; replace hx261_1 := (cell_far (p := ⟨gb260, 0, none⟩) (by first | (rw [add_block]; exact hn261_0) | (show (Addr.add _ _).block ≠ _; rw [add_block]; exact hn261_0) | exact hn261_0) (.int .i64 ((rd_T72 l0 x17_1).f0))).trans hx261_1; replace hx261_2 := (cell_far (p := ⟨gb260, 0, none⟩) (by first | (rw [add_block]; exact hn261_0) | (show (Addr.add _ _).block ≠ _; rw [add_block]; exact hn261_0) | exact hn261_0) (.int .i64 ((rd_T72 l0 x17_1).f0))).trans hx261_2; replace hx261_0 := (cell_far (p := ⟨gb260, 1, none⟩) (by first | (rw [add_block]; exact hn261_1) | (show (Addr.add _ _).block ≠ _; rw [add_block]; exact hn261_1) | exact hn261_1) (.int .i64 ((rd_T72 l0 x17_1).f1))).trans hx261_0; replace hx261_1 := (cell_far (p := ⟨gb260, 1, none⟩) (by first | (rw [add_block]; exact hn261_1) | (show (Addr.add _ _).block ≠ _; rw [add_block]; exact hn261_1) | exact hn261_1) (.int .i64 ((rd_T72 l0 x17_1).f1))).trans hx261_1; replace hx261_2 := (cell_far (p := ⟨gb260, 1, none⟩) (by first | (rw [add_block]; exact hn261_1) | (show (Addr.add _ _).block ≠ _; rw [add_block]; exact hn261_1) | exact hn261_1) (.int .i64 ((rd_T72 l0 x17_1).f1))).trans hx261_2; replace hx261_0 := (cell_far (p := ⟨gb260, 2, none⟩) (by first | (rw [add_block]; exact hn261_2) | (show (Addr.add _ _).block ≠ _; rw [add_block]; exact hn261_2) | exact hn261_2) (.int .i64 ((rd_T72 l0 x17_1).f2))).trans hx261_0; replace hx261_1 := (cell_far (p := ⟨gb260, 2, none⟩) (by first | (rw [add_block]; exact hn261_2) | (show (Addr.add _ _).block ≠ _; rw [add_block]; exact hn261_2) | exact hn261_2) (.int .i64 ((rd_T72 l0 x17_1).f2))).trans hx261_1; replace hx261_2 := (cell_far (p := ⟨gb260, 2, none⟩) (by first | (rw [add_block]; exact hn261_2) | (show (Addr.add _ _).block ≠ _; rw [add_block]; exact hn261_2) | exact hn261_2) (.int .i64 ((rd_T72 l0 x17_1).f2))).trans hx261_2; clear hn261_0; clear hn261_1; clear hn261_2; replace p261 := eq_true p261; replace q261 := eq_true q261) | ((with_reducible refine gate_dst (N := 9) rfl ?_); refine bx_ 9 #[.int .i64 0, .int .i64 0, .int .i64 0] 72 rfl rfl ?hr ?_; (case hr => go_simp; try rfl); intro gb262 hg w13 hbox hb; have BK262 := Aside0.mk (hbox); have GW262 := Aside0.mk ((by rw [hg]; exact (below_size (by repeat (first | (with_reducible first | exact HB.out | apply bU | apply bS GE260.out) | exact HB.out))) : w.heap.size ≤ gb262)); have GE262 := Aside0.mk ((by rw [hg]; exact (below_size (by repeat (first | (with_reducible first | exact HB.out | apply bU | apply bS GE260.out) | exact HB.out))) : w.heap.size ≤ gb262)); have NB260_262 := Aside0.mk ((by rw [hg]; exact Nat.ne_of_lt (blk_lt (g := gb260) (o := .cells #[.int .i64 ((rd_T72 l0 x17_1).f0), .int .i64 ((rd_T72 l0 x17_1).f1), .int .i64 ((rd_T72 l0 x17_1).f2)] 72 (0, 0)) (by (with_reducible repeat (first | refine blk_drewN ?_ _ | refine blk_drew ?_ | refine blk_alloc ?_ _)); refine blk_put (cs := #[.int .i64 ((rd_T72 l0 x17_1).f0), .int .i64 ((rd_T72 l0 x17_1).f1), .int .i64 0]) ?_ 2 _ rfl; (with_reducible repeat (first | refine blk_drewN ?_ _ | refine blk_drew ?_ | refine blk_alloc ?_ _)); refine blk_put (cs := #[.int .i64 ((rd_T72 l0 x17_1).f0), .int .i64 0, .int .i64 0]) ?_ 1 _ rfl; (with_reducible repeat (first | refine blk_drewN ?_ _ | refine blk_drew ?_ | refine blk_alloc ?_ _)); refine blk_put (cs := #[.int .i64 0, .int .i64 0, .int .i64 0]) ?_ 0 _ rfl; (with_reducible repeat (first | refine blk_drewN ?_ _ | refine blk_drew ?_ | refine blk_alloc ?_ _)); exact BK260.out)) : gb260 ≠ gb262)); have NB262_260 := Aside0.mk ((by rw [hg]; exact Nat.ne_of_gt (blk_lt (g := gb260) (o := .cells #[.int .i64 ((rd_T72 l0 x17_1).f0), .int .i64 ((rd_T72 l0 x17_1).f1), .int .i64 ((rd_T72 l0 x17_1).f2)] 72 (0, 0)) (by (with_reducible repeat (first | refine blk_drewN ?_ _ | refine blk_drew ?_ | refine blk_alloc ?_ _)); refine blk_put (cs := #[.int .i64 ((rd_T72 l0 x17_1).f0), .int .i64 ((rd_T72 l0 x17_1).f1), .int .i64 0]) ?_ 2 _ rfl; (with_reducible repeat (first | refine blk_drewN ?_ _ | refine blk_drew ?_ | refine blk_alloc ?_ _)); refine blk_put (cs := #[.int .i64 ((rd_T72 l0 x17_1).f0), .int .i64 0, .int .i64 0]) ?_ 1 _ rfl; (with_reducible repeat (first | refine blk_drewN ?_ _ | refine blk_drew ?_ | refine blk_alloc ?_ _)); refine blk_put (cs := #[.int .i64 0, .int .i64 0, .int .i64 0]) ?_ 0 _ rfl; (with_reducible repeat (first | refine blk_drewN ?_ _ | refine blk_drew ?_ | refine blk_alloc ?_ _)); exact BK260.out)) : gb262 ≠ gb260)); replace BK260 := Aside0.mk (blk_below (g := gb260) (o := .cells #[.int .i64 ((rd_T72 l0 x17_1).f0), .int .i64 ((rd_T72 l0 x17_1).f1), .int .i64 ((rd_T72 l0 x17_1).f2)] 72 (0, 0)) (by (with_reducible repeat (first | refine blk_drewN ?_ _ | refine blk_drew ?_ | refine blk_alloc ?_ _)); refine blk_put (cs := #[.int .i64 ((rd_T72 l0 x17_1).f0), .int .i64 ((rd_T72 l0 x17_1).f1), .int .i64 0]) ?_ 2 _ rfl; (with_reducible repeat (first | refine blk_drewN ?_ _ | refine blk_drew ?_ | refine blk_alloc ?_ _)); refine blk_put (cs := #[.int .i64 ((rd_T72 l0 x17_1).f0), .int .i64 0, .int .i64 0]) ?_ 1 _ rfl; (with_reducible repeat (first | refine blk_drewN ?_ _ | refine blk_drew ?_ | refine blk_alloc ?_ _)); refine blk_put (cs := #[.int .i64 0, .int .i64 0, .int .i64 0]) ?_ 0 _ rfl; (with_reducible repeat (first | refine blk_drewN ?_ _ | refine blk_drew ?_ | refine blk_alloc ?_ _)); exact BK260.out) hb); replace HB := Aside0.mk (below_step (by repeat (first | (with_reducible first | exact HB.out | apply bU | apply bS GE260.out) | exact HB.out)) hb); clear hb hbox hg; have hnb14 := NB262_260.out; have hnc14 := NB260_262.out; obtain ⟨hcz15_0, hcz15_1, hcz15_2, hfz15_0, hfz15_1, hfz15_2⟩ := c3_ BK262; obtain ⟨hcz16_0, hcz16_1, hcz16_2, hfz16_0, hfz16_1, hfz16_2⟩ := c3_ BK260) | ((with_reducible refine gate_tmp (s := 26) rfl ?_); refine goesT_ (some 29) rfl rfl Try.func46 (by kernel_rfl) rfl #[.agg #[.int .i64 ((rd_T72 l0 x17_1).f0), .int .i64 ((rd_T72 l0 x17_1).f1), .int .i64 ((rd_T72 l0 x17_1).f2)], .agg #[.int .i64 ((rd_T72 l1 x17_1).f0), .int .i64 ((rd_T72 l1 x17_1).f1), .int .i64 ((rd_T72 l1 x17_1).f2)]] rfl rfl (by (try simp only [List.map_toArray, List.map_cons, List.map_nil]); first | done | rfl | (simp only [List.length_drop, List.length_take]; rfl)) ?_; (with_reducible refine (lsa_Same_1.calls ((rd_T72 l0 x17_1).f0) ((rd_T72 l0 x17_1).f1) ((rd_T72 l0 x17_1).f2) ((rd_T72 l1 x17_1).f0) ((rd_T72 l1 x17_1).f1) ((rd_T72 l1 x17_1).f2) true _ A9.out).mono ?_); rintro e w17 ⟨rfl, hb⟩; refine ⟨_, rfl, ?_⟩; replace BK260 := Aside0.mk (blk_below (g := gb260) (o := .cells #[.int .i64 ((rd_T72 l0 x17_1).f0), .int .i64 ((rd_T72 l0 x17_1).f1), .int .i64 ((rd_T72 l0 x17_1).f2)] 72 (0, 0)) (by (with_reducible repeat (first | refine blk_drewN ?_ _ | refine blk_drew ?_ | refine blk_alloc ?_ _)); refine blk_far ?_ NB260_262.out _; (with_reducible repeat (first | refine blk_drewN ?_ _ | refine blk_drew ?_ | refine blk_alloc ?_ _)); refine blk_far ?_ NB260_262.out _; (with_reducible repeat (first | refine blk_drewN ?_ _ | refine blk_drew ?_ | refine blk_alloc ?_ _)); refine blk_far ?_ NB260_262.out _; (with_reducible repeat (first | refine blk_drewN ?_ _ | refine blk_drew ?_ | refine blk_alloc ?_ _)); exact BK260.out) hb); replace BK262 := Aside0.mk (blk_below (g := gb262) (o := .cells #[.int .i64 ((rd_T72 l1 x17_1).f0), .int .i64 ((rd_T72 l1 x17_1).f1), .int .i64 ((rd_T72 l1 x17_1).f2)] 72 (0, 0)) (by (with_reducible repeat (first | refine blk_drewN ?_ _ | refine blk_drew ?_ | refine blk_alloc ?_ _)); refine blk_put (cs := #[.int .i64 ((rd_T72 l1 x17_1).f0), .int .i64 ((rd_T72 l1 x17_1).f1), .int .i64 0]) ?_ 2 _ rfl; (with_reducible repeat (first | refine blk_drewN ?_ _ | refine blk_drew ?_ | refine blk_alloc ?_ _)); refine blk_put (cs := #[.int .i64 ((rd_T72 l1 x17_1).f0), .int .i64 0, .int .i64 0]) ?_ 1 _ rfl; (with_reducible repeat (first | refine blk_drewN ?_ _ | refine blk_drew ?_ | refine blk_alloc ?_ _)); refine blk_put (cs := #[.int .i64 0, .int .i64 0, .int .i64 0]) ?_ 0 _ rfl; (with_reducible repeat (first | refine blk_drewN ?_ _ | refine blk_drew ?_ | refine blk_alloc ?_ _)); exact BK262.out) hb); replace HB := Aside0.mk (below_step (by repeat (first | (with_reducible first | exact HB.out | apply bU | apply bS GE260.out | apply bS GE262.out) | exact HB.out)) hb); (try clear hb); (try clear hb2); (try clear hk); (try clear hi)))
         go_roundg k1
         case measure => have := HK1.out; omega
         case rel => exact ⟨(wrap64 (x17_1 + 1)), (by first | rfl | (simp; done) | (simp [*]; done)), H', ⟨by have := HK1.out; omega⟩, ⟨by repeat (first | (with_reducible first | exact HB.out | apply bU | apply bS GE260.out | apply bS GE262.out) | exact HB.out)⟩⟩
        ·replace c10 := Bool.eq_false_iff.mpr c10
         subst c10
         have H1 : (some false) = some r := by rw [if_neg (show ¬ (false = true) by decide)] at H; exact H
         clear H
         have H := H1
         clear H1
         obtain rfl := Option.some.inj H
         have p259 : 0 ≤ (x17_1 : Int) := of_decide_eq_true (by first | (with_reducible assumption) | assumption)
         have q259 : x17_1 < (l0.length : Int) := of_decide_eq_true (by first | (with_reducible assumption) | assumption)
         obtain ⟨ad259, e259, hx259_0, hx259_1, hx259_2⟩ := at_T72 HR0.out x17_1 p259 q259
         cases e259
         replace hx259_0 := (HB.out.cell (World.block_lt_of_cell? w _ hx259_0)).trans hx259_0
         replace hx259_1 := (HB.out.cell (World.block_lt_of_cell? w _ hx259_1)).trans hx259_1
         replace hx259_2 := (HB.out.cell (World.block_lt_of_cell? w _ hx259_2)).trans hx259_2
         replace p259 := eq_true p259
         replace q259 := eq_true q259
         go_wp2_with (first | ((with_reducible refine gate_dst (N := 8) rfl ?_); refine bx_ 8 #[.int .i64 0, .int .i64 0, .int .i64 0] 72 rfl rfl ?hr ?_; (case hr => go_simp; try rfl); intro gb260 hg w18 hbox hb; have BK260 := Aside0.mk (hbox); have GW260 := gs_ HB hg; have GE260 := gs_ HB hg; replace HB := bs_ HB hb; clear hb hbox hg; obtain ⟨hcz19_0, hcz19_1, hcz19_2, hfz19_0, hfz19_1, hfz19_2⟩ := c3_ BK260; have p261 : 0 ≤ (x17_1 : Int) := of_decide_eq_true (by first | (with_reducible assumption) | assumption); have q261 : x17_1 < (l1.length : Int) := of_decide_eq_true (by first | (with_reducible assumption) | assumption); obtain ⟨ad261, e261, hx261_0, hx261_1, hx261_2⟩ := at_T72 HR1.out x17_1 p261 q261; cases e261; have hn261_0 : ad261.block ≠ gb260 := Nat.ne_of_lt (Nat.lt_of_lt_of_le (by have := World.block_lt_of_cell? _ _ hx261_0; first | rwa [add_block] at this | exact this) GW260.out); have hn261_1 : ad261.block ≠ gb260 := Nat.ne_of_lt (Nat.lt_of_lt_of_le (by have := World.block_lt_of_cell? _ _ hx261_0; first | rwa [add_block] at this | exact this) GW260.out); have hn261_2 : ad261.block ≠ gb260 := Nat.ne_of_lt (Nat.lt_of_lt_of_le (by have := World.block_lt_of_cell? _ _ hx261_0; first | rwa [add_block] at this | exact this) GW260.out); replace hx261_0 := (HB.out.cell (World.block_lt_of_cell? w _ hx261_0)).trans hx261_0; replace hx261_1 := (HB.out.cell (World.block_lt_of_cell? w _ hx261_1)).trans hx261_1; replace hx261_2 := (HB.out.cell (World.block_lt_of_cell? w _ hx261_2)).trans hx261_2; replace hx261_0 := (cell_far (p := ⟨gb260, 0, none⟩) (by first | (rw [add_block]; exact hn261_0) | (show (Addr.add _ _).block ≠ _; rw [add_block]; exact hn261_0) | exact hn261_0) (.int .i64 ((rd_T72 l0 x17_1).f0))).trans hx261_0; replace hx261_1 := (cell_far (p := ⟨gb260, 0, none⟩) (by first | (rw [add_block]; exact hn261_0) | (show (Addr.add _ _).block ≠ _; rw [add_block]; exact hn261_0) | exact hn261_0) (.int .i64 ((rd_T72 l0 x17_1).f0))).trans hx261_1; replace hx261_2 := (cell_far (p := ⟨gb260, 0, none⟩) (by first | (rw [add_block]; exact hn261_0) | (show (Addr.add _ _).block ≠ _; rw [add_block]; exact hn261_0) | exact hn261_0) (.int .i64 ((rd_T72 l0 x17_1).f0))).trans hx261_2; replace hx261_0 := (cell_far (p := ⟨gb260, 1, none⟩) (by first | (rw [add_block]; exact hn261_1) | (show (Addr.add _ _).block ≠ _; rw [add_block]; exact hn261_1) | exact hn261_1) (.int .i64 ((rd_T72 l0 x17_1).f1))).trans hx261_0; replace hx261_1 := (cell_far (p := ⟨gb260, 1, none⟩) (by first | (rw [add_block]; exact hn261_1) | (show (Addr.add _ _).block ≠ _; rw [add_block]; exact hn261_1) | exact hn261_1) (.int .i64 ((rd_T72 l0 x17_1).f1))).trans hx261_1; replace hx261_2 := (cell_far (p := ⟨gb260, 1, none⟩) (by first | (rw [add_block]; exact hn261_1) | (show (Addr.add _ _).block ≠ _; rw [add_block]; exact hn261_1) | exact hn261_1) (.int .i64 ((rd_T72 l0 x17_1).f1))).trans hx261_2; replace hx261_0 := (cell_far (p := ⟨gb260, 2, none⟩) (by first | (rw [add_block]; exact hn261_2) | (show (Addr.add _ _).block ≠ _; rw [add_block]; exact hn261_2) | exact hn261_2) (.int .i64 ((rd_T72 l0 x17_1).f2))).trans hx261_0; replace hx261_1 := (cell_far (p := ⟨gb260, 2, none⟩) (by first | (rw [add_block]; exact hn261_2) | (show (Addr.add _ _).block ≠ _; rw [add_block]; exact hn261_2) | exact hn261_2) (.int .i64 ((rd_T72 l0 x17_1).f2))).trans hx261_1; replace hx261_2 := (cell_far (p := ⟨gb260, 2, none⟩) (by first | (rw [add_block]; exact hn261_2) | (show (Addr.add _ _).block ≠ _; rw [add_block]; exact hn261_2) | exact hn261_2) (.int .i64 ((rd_T72 l0 x17_1).f2))).trans hx261_2; clear hn261_0; clear hn261_1; clear hn261_2; replace p261 := eq_true p261; replace q261 := eq_true q261) | ((with_reducible refine gate_dst (N := 9) rfl ?_); refine bx_ 9 #[.int .i64 0, .int .i64 0, .int .i64 0] 72 rfl rfl ?hr ?_; (case hr => go_simp; try rfl); intro gb262 hg w20 hbox hb; have BK262 := Aside0.mk (hbox); have GW262 := Aside0.mk ((by rw [hg]; exact (below_size (by repeat (first | (with_reducible first | exact HB.out | apply bU | apply bS GE260.out) | exact HB.out))) : w.heap.size ≤ gb262)); have GE262 := Aside0.mk ((by rw [hg]; exact (below_size (by repeat (first | (with_reducible first | exact HB.out | apply bU | apply bS GE260.out) | exact HB.out))) : w.heap.size ≤ gb262)); have NB260_262 := Aside0.mk ((by rw [hg]; exact Nat.ne_of_lt (blk_lt (g := gb260) (o := .cells #[.int .i64 ((rd_T72 l0 x17_1).f0), .int .i64 ((rd_T72 l0 x17_1).f1), .int .i64 ((rd_T72 l0 x17_1).f2)] 72 (0, 0)) (by (with_reducible repeat (first | refine blk_drewN ?_ _ | refine blk_drew ?_ | refine blk_alloc ?_ _)); refine blk_put (cs := #[.int .i64 ((rd_T72 l0 x17_1).f0), .int .i64 ((rd_T72 l0 x17_1).f1), .int .i64 0]) ?_ 2 _ rfl; (with_reducible repeat (first | refine blk_drewN ?_ _ | refine blk_drew ?_ | refine blk_alloc ?_ _)); refine blk_put (cs := #[.int .i64 ((rd_T72 l0 x17_1).f0), .int .i64 0, .int .i64 0]) ?_ 1 _ rfl; (with_reducible repeat (first | refine blk_drewN ?_ _ | refine blk_drew ?_ | refine blk_alloc ?_ _)); refine blk_put (cs := #[.int .i64 0, .int .i64 0, .int .i64 0]) ?_ 0 _ rfl; (with_reducible repeat (first | refine blk_drewN ?_ _ | refine blk_drew ?_ | refine blk_alloc ?_ _)); exact BK260.out)) : gb260 ≠ gb262)); have NB262_260 := Aside0.mk ((by rw [hg]; exact Nat.ne_of_gt (blk_lt (g := gb260) (o := .cells #[.int .i64 ((rd_T72 l0 x17_1).f0), .int .i64 ((rd_T72 l0 x17_1).f1), .int .i64 ((rd_T72 l0 x17_1).f2)] 72 (0, 0)) (by (with_reducible repeat (first | refine blk_drewN ?_ _ | refine blk_drew ?_ | refine blk_alloc ?_ _)); refine blk_put (cs := #[.int .i64 ((rd_T72 l0 x17_1).f0), .int .i64 ((rd_T72 l0 x17_1).f1), .int .i64 0]) ?_ 2 _ rfl; (with_reducible repeat (first | refine blk_drewN ?_ _ | refine blk_drew ?_ | refine blk_alloc ?_ _)); refine blk_put (cs := #[.int .i64 ((rd_T72 l0 x17_1).f0), .int .i64 0, .int .i64 0]) ?_ 1 _ rfl; (with_reducible repeat (first | refine blk_drewN ?_ _ | refine blk_drew ?_ | refine blk_alloc ?_ _)); refine blk_put (cs := #[.int .i64 0, .int .i64 0, .int .i64 0]) ?_ 0 _ rfl; (with_reducible repeat (first | refine blk_drewN ?_ _ | refine blk_drew ?_ | refine blk_alloc ?_ _)); exact BK260.out)) : gb262 ≠ gb260)); replace BK260 := Aside0.mk (blk_below (g := gb260) (o := .cells #[.int .i64 ((rd_T72 l0 x17_1).f0), .int .i64 ((rd_T72 l0 x17_1).f1), .int .i64 ((rd_T72 l0 x17_1).f2)] 72 (0, 0)) (by (with_reducible repeat (first | refine blk_drewN ?_ _ | refine blk_drew ?_ | refine blk_alloc ?_ _)); refine blk_put (cs := #[.int .i64 ((rd_T72 l0 x17_1).f0), .int .i64 ((rd_T72 l0 x17_1).f1), .int .i64 0]) ?_ 2 _ rfl; (with_reducible repeat (first | refine blk_drewN ?_ _ | refine blk_drew ?_ | refine blk_alloc ?_ _)); refine blk_put (cs := #[.int .i64 ((rd_T72 l0 x17_1).f0), .int .i64 0, .int .i64 0]) ?_ 1 _ rfl; (with_reducible repeat (first | refine blk_drewN ?_ _ | refine blk_drew ?_ | refine blk_alloc ?_ _)); refine blk_put (cs := #[.int .i64 0, .int .i64 0, .int .i64 0]) ?_ 0 _ rfl; (with_reducible repeat (first | refine blk_drewN ?_ _ | refine blk_drew ?_ | refine blk_alloc ?_ _)); exact BK260.out) hb); replace HB := Aside0.mk (below_step (by repeat (first | (with_reducible first | exact HB.out | apply bU | apply bS GE260.out) | exact HB.out)) hb); clear hb hbox hg; have hnb21 := NB262_260.out; have hnc21 := NB260_262.out; obtain ⟨hcz22_0, hcz22_1, hcz22_2, hfz22_0, hfz22_1, hfz22_2⟩ := c3_ BK262; obtain ⟨hcz23_0, hcz23_1, hcz23_2, hfz23_0, hfz23_1, hfz23_2⟩ := c3_ BK260) | ((with_reducible refine gate_tmp (s := 26) rfl ?_); refine goesT_ (some 29) rfl rfl Try.func46 (by kernel_rfl) rfl #[.agg #[.int .i64 ((rd_T72 l0 x17_1).f0), .int .i64 ((rd_T72 l0 x17_1).f1), .int .i64 ((rd_T72 l0 x17_1).f2)], .agg #[.int .i64 ((rd_T72 l1 x17_1).f0), .int .i64 ((rd_T72 l1 x17_1).f1), .int .i64 ((rd_T72 l1 x17_1).f2)]] rfl rfl (by (try simp only [List.map_toArray, List.map_cons, List.map_nil]); first | done | rfl | (simp only [List.length_drop, List.length_take]; rfl)) ?_; (with_reducible refine (lsa_Same_1.calls ((rd_T72 l0 x17_1).f0) ((rd_T72 l0 x17_1).f1) ((rd_T72 l0 x17_1).f2) ((rd_T72 l1 x17_1).f0) ((rd_T72 l1 x17_1).f1) ((rd_T72 l1 x17_1).f2) false _ A9.out).mono ?_); rintro e w24 ⟨rfl, hb⟩; refine ⟨_, rfl, ?_⟩; replace BK260 := Aside0.mk (blk_below (g := gb260) (o := .cells #[.int .i64 ((rd_T72 l0 x17_1).f0), .int .i64 ((rd_T72 l0 x17_1).f1), .int .i64 ((rd_T72 l0 x17_1).f2)] 72 (0, 0)) (by (with_reducible repeat (first | refine blk_drewN ?_ _ | refine blk_drew ?_ | refine blk_alloc ?_ _)); refine blk_far ?_ NB260_262.out _; (with_reducible repeat (first | refine blk_drewN ?_ _ | refine blk_drew ?_ | refine blk_alloc ?_ _)); refine blk_far ?_ NB260_262.out _; (with_reducible repeat (first | refine blk_drewN ?_ _ | refine blk_drew ?_ | refine blk_alloc ?_ _)); refine blk_far ?_ NB260_262.out _; (with_reducible repeat (first | refine blk_drewN ?_ _ | refine blk_drew ?_ | refine blk_alloc ?_ _)); exact BK260.out) hb); replace BK262 := Aside0.mk (blk_below (g := gb262) (o := .cells #[.int .i64 ((rd_T72 l1 x17_1).f0), .int .i64 ((rd_T72 l1 x17_1).f1), .int .i64 ((rd_T72 l1 x17_1).f2)] 72 (0, 0)) (by (with_reducible repeat (first | refine blk_drewN ?_ _ | refine blk_drew ?_ | refine blk_alloc ?_ _)); refine blk_put (cs := #[.int .i64 ((rd_T72 l1 x17_1).f0), .int .i64 ((rd_T72 l1 x17_1).f1), .int .i64 0]) ?_ 2 _ rfl; (with_reducible repeat (first | refine blk_drewN ?_ _ | refine blk_drew ?_ | refine blk_alloc ?_ _)); refine blk_put (cs := #[.int .i64 ((rd_T72 l1 x17_1).f0), .int .i64 0, .int .i64 0]) ?_ 1 _ rfl; (with_reducible repeat (first | refine blk_drewN ?_ _ | refine blk_drew ?_ | refine blk_alloc ?_ _)); refine blk_put (cs := #[.int .i64 0, .int .i64 0, .int .i64 0]) ?_ 0 _ rfl; (with_reducible repeat (first | refine blk_drewN ?_ _ | refine blk_drew ?_ | refine blk_alloc ?_ _)); exact BK262.out) hb); replace HB := Aside0.mk (below_step (by repeat (first | (with_reducible first | exact HB.out | apply bU | apply bS GE260.out | apply bS GE262.out) | exact HB.out)) hb); (try clear hb); (try clear hb2); (try clear hk); (try clear hi)))
         go_ret
         exact ⟨by first | rfl | (simp [errW_none, errW_some] <;> rfl) | (simp [*, errW_none, errW_some] <;> rfl), by repeat (first | (with_reducible first | exact HB.out | apply bU | apply bS GE260.out | apply bS GE262.out) | exact HB.out)⟩
       ·rw [if_neg c8] at H
        exact absurd H (by simp)
      ·rw [if_neg c7] at H
       exact absurd H (by simp)
     ·rw [if_neg c6] at H
      exact absurd H (by simp)
    ·rw [if_neg c5] at H
     have c5b0 : decide (x17_1 < (l0.length : Int)) = false := decide_eq_false c5
     clear c5
     obtain rfl := Option.some.inj H
     go_wp2
     go_ret
     exact ⟨by first | rfl | (simp [errW_none, errW_some] <;> rfl) | (simp [*, errW_none, errW_some] <;> rfl), kw_ HB⟩
 ·rw [if_neg c4] at H
  have c4b0 : ((l0.length : Int) == (l1.length : Int)) = false := beq_eq_false_iff_ne.mpr c4
  have c4b1 : ((l0.length : Int) != (l1.length : Int)) = true := bne_iff_ne.mpr c4
  have c4b2 : (l0.length == l1.length) = false := by first | simpa using c4 | (simp at c4 ⊢; omega)
  obtain rfl := Option.some.inj H
  go_enter Try.func48, Try.ntmps48
  go_wp2
  go_ret
  exact ⟨by first | rfl | (simp [errW_none, errW_some] <;> rfl) | (simp [*, errW_none, errW_some] <;> rfl), kw_ HB⟩

/-! ### lsa_Same_2: function 47 -/
def lsa_Same_2.f (a0_0 : Int) (a0_1 : Int) (a1_0 : Int) (a1_1 : Int) : Option (Bool) := some (a0_0 == a1_0 && (a0_1 == a1_1))
set_option maxHeartbeats 8000000 in
set_option maxRecDepth 100000 in
theorem lsa_Same_2.calls (a0_0 : Int) (a0_1 : Int) (a1_0 : Int) (a1_1 : Int) (r : Bool) (w : World) (h : lsa_Same_2.f a0_0 a0_1 a1_0 a1_1 = some r) :
  Calls Try.prog 47 #[.agg #[.int .u32 a0_0, .int .i64 a0_1], .agg #[.int .u32 a1_0, .int .i64 a1_1]] w fun e w' => e = .returned (.bool r) ∧ Below w.heap.size w w' := by
 have hu76 := Try.underlying76
 have HB := Aside0.mk (Below.refl w.heap.size w)
 have H : (some (a0_0 == a1_0 && (a0_1 == a1_1))) = some r := h
 clear h
 obtain rfl := Option.some.inj H
 go_enter Try.func47, Try.ntmps47
 go_wp2_with (first | ((with_reducible refine gate_dst (N := 2) rfl ?_); refine bx_ 2 #[.int .u32 a0_0, .int .i64 a0_1] 76 rfl rfl ?hr ?_; (case hr => go_simp; try rfl); intro gb264 hg w3 hbox hb; have BK264 := Aside0.mk (hbox); have GW264 := gs_ HB hg; have GE264 := gs_ HB hg; replace HB := bs_ HB hb; clear hb hbox hg) | ((with_reducible refine gate_dst (N := 3) rfl ?_); refine bx_ 3 #[.int .u32 a1_0, .int .i64 a1_1] 76 rfl rfl ?hr ?_; (case hr => go_simp; try rfl); intro gb265 hg w4 hbox hb; have BK265 := Aside0.mk (hbox); have GW265 := Aside0.mk ((by rw [hg]; exact (below_size (by repeat (first | (with_reducible first | exact HB.out | apply bU | apply bS GE264.out) | exact HB.out))) : w.heap.size ≤ gb265)); have GE265 := Aside0.mk ((by rw [hg]; exact (below_size (by repeat (first | (with_reducible first | exact HB.out | apply bU | apply bS GE264.out) | exact HB.out))) : w.heap.size ≤ gb265)); have NB264_265 := nl_ BK264 hg; have NB265_264 := ng_ BK264 hg; replace BK264 := bb_ BK264 hb; replace HB := Aside0.mk (below_step (by repeat (first | (with_reducible first | exact HB.out | apply bU | apply bS GE264.out) | exact HB.out)) hb); clear hb hbox hg; have hnb5 := NB264_265.out; have hnc5 := NB265_264.out; obtain ⟨hcz6_0, hcz6_1, hfz6_0, hfz6_1⟩ := c2_ BK264; obtain ⟨hcz7_0, hcz7_1, hfz7_0, hfz7_1⟩ := c2_ BK265))
 go_ret
 exact ⟨by first | rfl | (simp [errW_none, errW_some] <;> rfl) | (simp [*, errW_none, errW_some] <;> rfl), by repeat (first | (with_reducible first | exact HB.out | apply bU | apply bS GE264.out | apply bS GE265.out) | exact HB.out)⟩

/-! ### api_Prefix_49: function 49 -/
def api_Prefix_49.l0 : Nat → List (S76) → List (S76) → Int → Int → Option (Bool)
 | 0, _, _, _, _ => none
 | k + 1, x1, x15, x16, x17 => if x17 < x16 then (if 0 ≤ x17 then (if x17 < (x15.length : Int) then (if x17 < (x1.length : Int) then ((lsa_Same_2.f ((rd_T76 x15 x17).f0) ((rd_T76 x15 x17).f1) ((rd_T76 x1 x17).f0) ((rd_T76 x1 x17).f1)).bind fun t270 => (if t270 = true then (api_Prefix_49.l0 k x1 x15 x16 (wrap64 (x17 + 1))) else (some false))) else (none)) else (none)) else (none)) else (some true)
def api_Prefix_49.f (k : Nat) (l0 : List (S76)) (l1 : List (S76))  : Option (Bool) := if (l0.length : Int) = (l1.length : Int) then (api_Prefix_49.l0 k l1 l0 (l0.length : Int) 0) else (some false)
theorem api_Prefix_49.mono_l : ∀ k, (∀ y0 y1 y2 y3, LeO (api_Prefix_49.l0 k y0 y1 y2 y3) (api_Prefix_49.l0 (k + 1) y0 y1 y2 y3))
 | 0 => fun _ _ _ _ r h => by simp [api_Prefix_49.l0] at h
 | k + 1 => by
  have ih0 := api_Prefix_49.mono_l k
  ·intro y0 y1 y2 y3
   unfold api_Prefix_49.l0
   repeat' first
   | (with_reducible exact ih0 _ _ _ _)
   | (with_reducible exact LeO.refl _)
   | (with_reducible exact LeO.none _)
   | (with_reducible refine LeO.ite ?_ ?_)
   | (with_reducible refine LeO.bind ?_ (fun _ => ?_))
   | exact ih0 _ _ _ _
   | exact LeO.none _
   | refine LeO.ite ?_ ?_
   | refine LeO.bind ?_ (fun _ => ?_)
theorem api_Prefix_49.mono : ∀ a0 a1 k, LeO (api_Prefix_49.f k a0 a1) (api_Prefix_49.f (k + 1) a0 a1) := by
 intro a0 a1 k
 have ih0 := api_Prefix_49.mono_l k
 unfold api_Prefix_49.f
 repeat' first
   | (with_reducible exact ih0 _ _ _ _)
   | (with_reducible exact LeO.refl _)
   | (with_reducible exact LeO.none _)
   | (with_reducible refine LeO.ite ?_ ?_)
   | (with_reducible refine LeO.bind ?_ (fun _ => ?_))
   | exact ih0 _ _ _ _
   | exact LeO.none _
   | refine LeO.ite ?_ ?_
   | refine LeO.bind ?_ (fun _ => ?_)
set_option maxHeartbeats 8000000 in
set_option maxRecDepth 100000 in
theorem api_Prefix_49.calls (k : Nat) (A0 : Option Addr) (c0 : Nat) (l0 : List (S76)) (A1 : Option Addr) (c1 : Nat) (l1 : List (S76))  (r : Bool) (w : World) (hr0 : Kd.C k76 w A0 l0.length l0) (hc0 : l0.length ≤ c0) (hr1 : Kd.C k76 w A1 l1.length l1) (hc1 : l1.length ≤ c1) (h : api_Prefix_49.f k l0 l1 = some r) :
  Calls Try.prog 49 #[.slice A0 l0.length c0, .slice A1 l1.length c1, .func (.func 47) #[] #[]] w fun e w' => e = .returned (.bool r) ∧ Below w.heap.size w w' := by
 have hu76 := Try.underlying76
 have HR0 := Aside0.mk hr0
 have HC0 := Aside0.mk hc0
 clear hr0 hc0
 have HR1 := Aside0.mk hr1
 have HC1 := Aside0.mk hc1
 clear hr1 hc1
 have HB := Aside0.mk (Below.refl w.heap.size w)
 have H : (if (l0.length : Int) = (l1.length : Int) then (api_Prefix_49.l0 k l1 l0 (l0.length : Int) 0) else (some false)) = some r := h
 clear h
 by_cases c4 : (l0.length : Int) = (l1.length : Int)
 ·rw [if_pos c4] at H
  have c4b0 : ((l0.length : Int) == (l1.length : Int)) = true := beq_iff_eq.mpr c4
  have c4b1 : ((l0.length : Int) != (l1.length : Int)) = false := bne_eq_false_iff_eq.mpr c4
  have c4b2 : (l0.length == l1.length) = true := by first | simpa using c4 | (simp at c4 ⊢; omega)
  clear c4
  have H' := Aside0.mk H
  clear H
  go_enter Try.func49, Try.ntmps49
  go_wp2
  go_loopg [17] k (fun kq v17 w' => ∃ (x17_1 : Int), v17 = .int .i64 x17_1 ∧ Aside0 (api_Prefix_49.l0 kq l1 l0 (l0.length : Int) x17_1 = some r) ∧ Aside0 (kq ≤ k) ∧ Aside0 (Below w.heap.size w w'))
  case atStart => exact ⟨(0), (by first | rfl | (simp; done) | (simp [*]; done)), H', ⟨Nat.le_refl _⟩, ⟨kw_ HB⟩⟩
  case round =>
   clear H'
   (try clear c1); (try clear c4); (try clear c4b0); (try clear c4b1); (try clear c4b2)
   obtain ⟨x17_1, rfl, HA, HK1, HB⟩ := hrel
   cases gk with
   | zero => exact absurd HA.out (by simp [api_Prefix_49.l0])
   | succ k1 =>
    have H := HA.out
    clear HA
    simp only [api_Prefix_49.l0] at H
    by_cases c5 : x17_1 < (l0.length : Int)
    ·rw [if_pos c5] at H
     have c5b0 : decide (x17_1 < (l0.length : Int)) = true := decide_eq_true c5
     clear c5
     by_cases c6 : 0 ≤ x17_1
     ·rw [if_pos c6] at H
      have c6b0 : decide (0 ≤ x17_1) = true := decide_eq_true c6
      clear c6
      by_cases c7 : x17_1 < (l0.length : Int)
      ·rw [if_pos c7] at H
       have c7b0 : decide (x17_1 < (l0.length : Int)) = true := decide_eq_true c7
       clear c7
       by_cases c8 : x17_1 < (l1.length : Int)
       ·rw [if_pos c8] at H
        have c8b0 : decide (x17_1 < (l1.length : Int)) = true := decide_eq_true c8
        clear c8
        replace H := Option.bind_eq_some_iff.mp H
        obtain ⟨t270, A90, H⟩ := H
        replace H : (if t270 = true then (api_Prefix_49.l0 k1 l1 l0 (l0.length : Int) (wrap64 (x17_1 + 1))) else (some false)) = some r := H
        have A9 := Aside0.mk A90
        clear A90
        by_cases c10 : t270 = true
        ·subst c10
         have H1 : (api_Prefix_49.l0 k1 l1 l0 (l0.length : Int) (wrap64 (x17_1 + 1))) = some r := by rw [if_pos rfl] at H; exact H
         clear H
         have H := H1
         clear H1
         have H' := Aside0.mk H
         clear H
         have p266 : 0 ≤ (x17_1 : Int) := of_decide_eq_true (by first | (with_reducible assumption) | assumption)
         have q266 : x17_1 < (l0.length : Int) := of_decide_eq_true (by first | (with_reducible assumption) | assumption)
         obtain ⟨ad266, e266, hx266_0, hx266_1⟩ := at_T76 HR0.out x17_1 p266 q266
         cases e266
         replace hx266_0 := (HB.out.cell (World.block_lt_of_cell? w _ hx266_0)).trans hx266_0
         replace hx266_1 := (HB.out.cell (World.block_lt_of_cell? w _ hx266_1)).trans hx266_1
         replace p266 := eq_true p266
         replace q266 := eq_true q266
         go_wp2_with (first | ((with_reducible refine gate_dst (N := 8) rfl ?_); refine bx_ 8 #[.int .u32 0, .int .i64 0] 76 rfl rfl ?hr ?_; (case hr => go_simp; try rfl); intro gb267 hg w11 hbox hb; have BK267 := Aside0.mk (hbox); have GW267 := gs_ HB hg; have GE267 := gs_ HB hg; replace HB := bs_ HB hb; clear hb hbox hg; obtain ⟨hcz12_0, hcz12_1, hfz12_0, hfz12_1⟩ := c2_ BK267; have p268 : 0 ≤ (x17_1 : Int) := of_decide_eq_true (by first | (with_reducible assumption) | assumption); have q268 : x17_1 < (l1.length : Int) := of_decide_eq_true (by first | (with_reducible assumption) | assumption); obtain ⟨ad268, e268, hx268_0, hx268_1⟩ := at_T76 HR1.out x17_1 p268 q268; cases e268; have hn268_0 : ad268.block ≠ gb267 := Nat.ne_of_lt (Nat.lt_of_lt_of_le (by have := World.block_lt_of_cell? _ _ hx268_0; first | rwa [add_block] at this | exact this) GW267.out); have hn268_1 : ad268.block ≠ gb267 := Nat.ne_of_lt (Nat.lt_of_lt_of_le (by have := World.block_lt_of_cell? _ _ hx268_0; first | rwa [add_block] at this | exact this) GW267.out); replace hx268_0 := (HB.out.cell (World.block_lt_of_cell? w _ hx268_0)).trans hx268_0; replace hx268_1 := (HB.out.cell (World.block_lt_of_cell? w _ hx268_1)).trans hx268_1; replace hx268_0 := (cell_far (p := ⟨gb267, 0, none⟩) (by first | (rw [add_block]; exact hn268_0) | (show (Addr.add _ _).block ≠ _; rw [add_block]; exact hn268_0) | exact hn268_0) (.int .u32 ((rd_T76 l0 x17_1).f0))).trans hx268_0; replace hx268_1 := (cell_far (p := ⟨gb267, 0, none⟩) (by first | (rw [add_block]; exact hn268_0) | (show (Addr.add _ _).block ≠ _; rw [add_block]; exact hn268_0) | exact hn268_0) (.int .u32 ((rd_T76 l0 x17_1).f0))).trans hx268_1; replace hx268_0 := (cell_far (p := ⟨gb267, 1, none⟩) (by first | (rw [add_block]; exact hn268_1) | (show (Addr.add _ _).block ≠ _; rw [add_block]; exact hn268_1) | exact hn268_1) (.int .i64 ((rd_T76 l0 x17_1).f1))).trans hx268_0; replace hx268_1 := (cell_far (p := ⟨gb267, 1, none⟩) (by first | (rw [add_block]; exact hn268_1) | (show (Addr.add _ _).block ≠ _; rw [add_block]; exact hn268_1) | exact hn268_1) (.int .i64 ((rd_T76 l0 x17_1).f1))).trans hx268_1; clear hn268_0; clear hn268_1; replace p268 := eq_true p268; replace q268 := eq_true q268) | ((with_reducible refine gate_dst (N := 9) rfl ?_); refine bx_ 9 #[.int .u32 0, .int .i64 0] 76 rfl rfl ?hr ?_; (case hr => go_simp; try rfl); intro gb269 hg w13 hbox hb; have BK269 := Aside0.mk (hbox); have GW269 := Aside0.mk ((by rw [hg]; exact (below_size (by repeat (first | (with_reducible first | exact HB.out | apply bU | apply bS GE267.out) | exact HB.out))) : w.heap.size ≤ gb269)); have GE269 := Aside0.mk ((by rw [hg]; exact (below_size (by repeat (first | (with_reducible first | exact HB.out | apply bU | apply bS GE267.out) | exact HB.out))) : w.heap.size ≤ gb269)); have NB267_269 := Aside0.mk ((by rw [hg]; exact Nat.ne_of_lt (blk_lt (g := gb267) (o := .cells #[.int .u32 ((rd_T76 l0 x17_1).f0), .int .i64 ((rd_T76 l0 x17_1).f1)] 76 (0, 0)) (by (with_reducible repeat (first | refine blk_drewN ?_ _ | refine blk_drew ?_ | refine blk_alloc ?_ _)); refine blk_put (cs := #[.int .u32 ((rd_T76 l0 x17_1).f0), .int .i64 0]) ?_ 1 _ rfl; (with_reducible repeat (first | refine blk_drewN ?_ _ | refine blk_drew ?_ | refine blk_alloc ?_ _)); refine blk_put (cs := #[.int .u32 0, .int .i64 0]) ?_ 0 _ rfl; (with_reducible repeat (first | refine blk_drewN ?_ _ | refine blk_drew ?_ | refine blk_alloc ?_ _)); exact BK267.out)) : gb267 ≠ gb269)); have NB269_267 := Aside0.mk ((by rw [hg]; exact Nat.ne_of_gt (blk_lt (g := gb267) (o := .cells #[.int .u32 ((rd_T76 l0 x17_1).f0), .int .i64 ((rd_T76 l0 x17_1).f1)] 76 (0, 0)) (by (with_reducible repeat (first | refine blk_drewN ?_ _ | refine blk_drew ?_ | refine blk_alloc ?_ _)); refine blk_put (cs := #[.int .u32 ((rd_T76 l0 x17_1).f0), .int .i64 0]) ?_ 1 _ rfl; (with_reducible repeat (first | refine blk_drewN ?_ _ | refine blk_drew ?_ | refine blk_alloc ?_ _)); refine blk_put (cs := #[.int .u32 0, .int .i64 0]) ?_ 0 _ rfl; (with_reducible repeat (first | refine blk_drewN ?_ _ | refine blk_drew ?_ | refine blk_alloc ?_ _)); exact BK267.out)) : gb269 ≠ gb267)); replace BK267 := Aside0.mk (blk_below (g := gb267) (o := .cells #[.int .u32 ((rd_T76 l0 x17_1).f0), .int .i64 ((rd_T76 l0 x17_1).f1)] 76 (0, 0)) (by (with_reducible repeat (first | refine blk_drewN ?_ _ | refine blk_drew ?_ | refine blk_alloc ?_ _)); refine blk_put (cs := #[.int .u32 ((rd_T76 l0 x17_1).f0), .int .i64 0]) ?_ 1 _ rfl; (with_reducible repeat (first | refine blk_drewN ?_ _ | refine blk_drew ?_ | refine blk_alloc ?_ _)); refine blk_put (cs := #[.int .u32 0, .int .i64 0]) ?_ 0 _ rfl; (with_reducible repeat (first | refine blk_drewN ?_ _ | refine blk_drew ?_ | refine blk_alloc ?_ _)); exact BK267.out) hb); replace HB := Aside0.mk (below_step (by repeat (first | (with_reducible first | exact HB.out | apply bU | apply bS GE267.out) | exact HB.out)) hb); clear hb hbox hg; have hnb14 := NB269_267.out; have hnc14 := NB267_269.out; obtain ⟨hcz15_0, hcz15_1, hfz15_0, hfz15_1⟩ := c2_ BK269; obtain ⟨hcz16_0, hcz16_1, hfz16_0, hfz16_1⟩ := c2_ BK267) | ((with_reducible refine gate_tmp (s := 26) rfl ?_); refine goesT_ (some 29) rfl rfl Try.func47 (by kernel_rfl) rfl #[.agg #[.int .u32 ((rd_T76 l0 x17_1).f0), .int .i64 ((rd_T76 l0 x17_1).f1)], .agg #[.int .u32 ((rd_T76 l1 x17_1).f0), .int .i64 ((rd_T76 l1 x17_1).f1)]] rfl rfl (by (try simp only [List.map_toArray, List.map_cons, List.map_nil]); first | done | rfl | (simp only [List.length_drop, List.length_take]; rfl)) ?_; (with_reducible refine (lsa_Same_2.calls ((rd_T76 l0 x17_1).f0) ((rd_T76 l0 x17_1).f1) ((rd_T76 l1 x17_1).f0) ((rd_T76 l1 x17_1).f1) true _ A9.out).mono ?_); rintro e w17 ⟨rfl, hb⟩; refine ⟨_, rfl, ?_⟩; replace BK267 := Aside0.mk (blk_below (g := gb267) (o := .cells #[.int .u32 ((rd_T76 l0 x17_1).f0), .int .i64 ((rd_T76 l0 x17_1).f1)] 76 (0, 0)) (by (with_reducible repeat (first | refine blk_drewN ?_ _ | refine blk_drew ?_ | refine blk_alloc ?_ _)); refine blk_far ?_ NB267_269.out _; (with_reducible repeat (first | refine blk_drewN ?_ _ | refine blk_drew ?_ | refine blk_alloc ?_ _)); refine blk_far ?_ NB267_269.out _; (with_reducible repeat (first | refine blk_drewN ?_ _ | refine blk_drew ?_ | refine blk_alloc ?_ _)); exact BK267.out) hb); replace BK269 := Aside0.mk (blk_below (g := gb269) (o := .cells #[.int .u32 ((rd_T76 l1 x17_1).f0), .int .i64 ((rd_T76 l1 x17_1).f1)] 76 (0, 0)) (by (with_reducible repeat (first | refine blk_drewN ?_ _ | refine blk_drew ?_ | refine blk_alloc ?_ _)); refine blk_put (cs := #[.int .u32 ((rd_T76 l1 x17_1).f0), .int .i64 0]) ?_ 1 _ rfl; (with_reducible repeat (first | refine blk_drewN ?_ _ | refine blk_drew ?_ | refine blk_alloc ?_ _)); refine blk_put (cs := #[.int .u32 0, .int .i64 0]) ?_ 0 _ rfl; (with_reducible repeat (first | refine blk_drewN ?_ _ | refine blk_drew ?_ | refine blk_alloc ?_ _)); exact BK269.out) hb); replace HB := Aside0.mk (below_step (by repeat (first | (with_reducible first | exact HB.out | apply bU | apply bS GE267.out | apply bS GE269.out) | exact HB.out)) hb); (try clear hb); (try clear hb2); (try clear hk); (try clear hi)))
         go_roundg k1
         case measure => have := HK1.out; omega
         case rel => exact ⟨(wrap64 (x17_1 + 1)), (by first | rfl | (simp; done) | (simp [*]; done)), H', ⟨by have := HK1.out; omega⟩, ⟨by repeat (first | (with_reducible first | exact HB.out | apply bU | apply bS GE267.out | apply bS GE269.out) | exact HB.out)⟩⟩
        ·replace c10 := Bool.eq_false_iff.mpr c10
         subst c10
         have H1 : (some false) = some r := by rw [if_neg (show ¬ (false = true) by decide)] at H; exact H
         clear H
         have H := H1
         clear H1
         obtain rfl := Option.some.inj H
         have p266 : 0 ≤ (x17_1 : Int) := of_decide_eq_true (by first | (with_reducible assumption) | assumption)
         have q266 : x17_1 < (l0.length : Int) := of_decide_eq_true (by first | (with_reducible assumption) | assumption)
         obtain ⟨ad266, e266, hx266_0, hx266_1⟩ := at_T76 HR0.out x17_1 p266 q266
         cases e266
         replace hx266_0 := (HB.out.cell (World.block_lt_of_cell? w _ hx266_0)).trans hx266_0
         replace hx266_1 := (HB.out.cell (World.block_lt_of_cell? w _ hx266_1)).trans hx266_1
         replace p266 := eq_true p266
         replace q266 := eq_true q266
         go_wp2_with (first | ((with_reducible refine gate_dst (N := 8) rfl ?_); refine bx_ 8 #[.int .u32 0, .int .i64 0] 76 rfl rfl ?hr ?_; (case hr => go_simp; try rfl); intro gb267 hg w18 hbox hb; have BK267 := Aside0.mk (hbox); have GW267 := gs_ HB hg; have GE267 := gs_ HB hg; replace HB := bs_ HB hb; clear hb hbox hg; obtain ⟨hcz19_0, hcz19_1, hfz19_0, hfz19_1⟩ := c2_ BK267; have p268 : 0 ≤ (x17_1 : Int) := of_decide_eq_true (by first | (with_reducible assumption) | assumption); have q268 : x17_1 < (l1.length : Int) := of_decide_eq_true (by first | (with_reducible assumption) | assumption); obtain ⟨ad268, e268, hx268_0, hx268_1⟩ := at_T76 HR1.out x17_1 p268 q268; cases e268; have hn268_0 : ad268.block ≠ gb267 := Nat.ne_of_lt (Nat.lt_of_lt_of_le (by have := World.block_lt_of_cell? _ _ hx268_0; first | rwa [add_block] at this | exact this) GW267.out); have hn268_1 : ad268.block ≠ gb267 := Nat.ne_of_lt (Nat.lt_of_lt_of_le (by have := World.block_lt_of_cell? _ _ hx268_0; first | rwa [add_block] at this | exact this) GW267.out); replace hx268_0 := (HB.out.cell (World.block_lt_of_cell? w _ hx268_0)).trans hx268_0; replace hx268_1 := (HB.out.cell (World.block_lt_of_cell? w _ hx268_1)).trans hx268_1; replace hx268_0 := (cell_far (p := ⟨gb267, 0, none⟩) (by first | (rw [add_block]; exact hn268_0) | (show (Addr.add _ _).block ≠ _; rw [add_block]; exact hn268_0) | exact hn268_0) (.int .u32 ((rd_T76 l0 x17_1).f0))).trans hx268_0; replace hx268_1 := (cell_far (p := ⟨gb267, 0, none⟩) (by first | (rw [add_block]; exact hn268_0) | (show (Addr.add _ _).block ≠ _; rw [add_block]; exact hn268_0) | exact hn268_0) (.int .u32 ((rd_T76 l0 x17_1).f0))).trans hx268_1; replace hx268_0 := (cell_far (p := ⟨gb267, 1, none⟩) (by first | (rw [add_block]; exact hn268_1) | (show (Addr.add _ _).block ≠ _; rw [add_block]; exact hn268_1) | exact hn268_1) (.int .i64 ((rd_T76 l0 x17_1).f1))).trans hx268_0; replace hx268_1 := (cell_far (p := ⟨gb267, 1, none⟩) (by first | (rw [add_block]; exact hn268_1) | (show (Addr.add _ _).block ≠ _; rw [add_block]; exact hn268_1) | exact hn268_1) (.int .i64 ((rd_T76 l0 x17_1).f1))).trans hx268_1; clear hn268_0; clear hn268_1; replace p268 := eq_true p268; replace q268 := eq_true q268) | ((with_reducible refine gate_dst (N := 9) rfl ?_); refine bx_ 9 #[.int .u32 0, .int .i64 0] 76 rfl rfl ?hr ?_; (case hr => go_simp; try rfl); intro gb269 hg w20 hbox hb; have BK269 := Aside0.mk (hbox); have GW269 := Aside0.mk ((by rw [hg]; exact (below_size (by repeat (first | (with_reducible first | exact HB.out | apply bU | apply bS GE267.out) | exact HB.out))) : w.heap.size ≤ gb269)); have GE269 := Aside0.mk ((by rw [hg]; exact (below_size (by repeat (first | (with_reducible first | exact HB.out | apply bU | apply bS GE267.out) | exact HB.out))) : w.heap.size ≤ gb269)); have NB267_269 := Aside0.mk ((by rw [hg]; exact Nat.ne_of_lt (blk_lt (g := gb267) (o := .cells #[.int .u32 ((rd_T76 l0 x17_1).f0), .int .i64 ((rd_T76 l0 x17_1).f1)] 76 (0, 0)) (by (with_reducible repeat (first | refine blk_drewN ?_ _ | refine blk_drew ?_ | refine blk_alloc ?_ _)); refine blk_put (cs := #[.int .u32 ((rd_T76 l0 x17_1).f0), .int .i64 0]) ?_ 1 _ rfl; (with_reducible repeat (first | refine blk_drewN ?_ _ | refine blk_drew ?_ | refine blk_alloc ?_ _)); refine blk_put (cs := #[.int .u32 0, .int .i64 0]) ?_ 0 _ rfl; (with_reducible repeat (first | refine blk_drewN ?_ _ | refine blk_drew ?_ | refine blk_alloc ?_ _)); exact BK267.out)) : gb267 ≠ gb269)); have NB269_267 := Aside0.mk ((by rw [hg]; exact Nat.ne_of_gt (blk_lt (g := gb267) (o := .cells #[.int .u32 ((rd_T76 l0 x17_1).f0), .int .i64 ((rd_T76 l0 x17_1).f1)] 76 (0, 0)) (by (with_reducible repeat (first | refine blk_drewN ?_ _ | refine blk_drew ?_ | refine blk_alloc ?_ _)); refine blk_put (cs := #[.int .u32 ((rd_T76 l0 x17_1).f0), .int .i64 0]) ?_ 1 _ rfl; (with_reducible repeat (first | refine blk_drewN ?_ _ | refine blk_drew ?_ | refine blk_alloc ?_ _)); refine blk_put (cs := #[.int .u32 0, .int .i64 0]) ?_ 0 _ rfl; (with_reducible repeat (first | refine blk_drewN ?_ _ | refine blk_drew ?_ | refine blk_alloc ?_ _)); exact BK267.out)) : gb269 ≠ gb267)); replace BK267 := Aside0.mk (blk_below (g := gb267) (o := .cells #[.int .u32 ((rd_T76 l0 x17_1).f0), .int .i64 ((rd_T76 l0 x17_1).f1)] 76 (0, 0)) (by (with_reducible repeat (first | refine blk_drewN ?_ _ | refine blk_drew ?_ | refine blk_alloc ?_ _)); refine blk_put (cs := #[.int .u32 ((rd_T76 l0 x17_1).f0), .int .i64 0]) ?_ 1 _ rfl; (with_reducible repeat (first | refine blk_drewN ?_ _ | refine blk_drew ?_ | refine blk_alloc ?_ _)); refine blk_put (cs := #[.int .u32 0, .int .i64 0]) ?_ 0 _ rfl; (with_reducible repeat (first | refine blk_drewN ?_ _ | refine blk_drew ?_ | refine blk_alloc ?_ _)); exact BK267.out) hb); replace HB := Aside0.mk (below_step (by repeat (first | (with_reducible first | exact HB.out | apply bU | apply bS GE267.out) | exact HB.out)) hb); clear hb hbox hg; have hnb21 := NB269_267.out; have hnc21 := NB267_269.out; obtain ⟨hcz22_0, hcz22_1, hfz22_0, hfz22_1⟩ := c2_ BK269; obtain ⟨hcz23_0, hcz23_1, hfz23_0, hfz23_1⟩ := c2_ BK267) | ((with_reducible refine gate_tmp (s := 26) rfl ?_); refine goesT_ (some 29) rfl rfl Try.func47 (by kernel_rfl) rfl #[.agg #[.int .u32 ((rd_T76 l0 x17_1).f0), .int .i64 ((rd_T76 l0 x17_1).f1)], .agg #[.int .u32 ((rd_T76 l1 x17_1).f0), .int .i64 ((rd_T76 l1 x17_1).f1)]] rfl rfl (by (try simp only [List.map_toArray, List.map_cons, List.map_nil]); first | done | rfl | (simp only [List.length_drop, List.length_take]; rfl)) ?_; (with_reducible refine (lsa_Same_2.calls ((rd_T76 l0 x17_1).f0) ((rd_T76 l0 x17_1).f1) ((rd_T76 l1 x17_1).f0) ((rd_T76 l1 x17_1).f1) false _ A9.out).mono ?_); rintro e w24 ⟨rfl, hb⟩; refine ⟨_, rfl, ?_⟩; replace BK267 := Aside0.mk (blk_below (g := gb267) (o := .cells #[.int .u32 ((rd_T76 l0 x17_1).f0), .int .i64 ((rd_T76 l0 x17_1).f1)] 76 (0, 0)) (by (with_reducible repeat (first | refine blk_drewN ?_ _ | refine blk_drew ?_ | refine blk_alloc ?_ _)); refine blk_far ?_ NB267_269.out _; (with_reducible repeat (first | refine blk_drewN ?_ _ | refine blk_drew ?_ | refine blk_alloc ?_ _)); refine blk_far ?_ NB267_269.out _; (with_reducible repeat (first | refine blk_drewN ?_ _ | refine blk_drew ?_ | refine blk_alloc ?_ _)); exact BK267.out) hb); replace BK269 := Aside0.mk (blk_below (g := gb269) (o := .cells #[.int .u32 ((rd_T76 l1 x17_1).f0), .int .i64 ((rd_T76 l1 x17_1).f1)] 76 (0, 0)) (by (with_reducible repeat (first | refine blk_drewN ?_ _ | refine blk_drew ?_ | refine blk_alloc ?_ _)); refine blk_put (cs := #[.int .u32 ((rd_T76 l1 x17_1).f0), .int .i64 0]) ?_ 1 _ rfl; (with_reducible repeat (first | refine blk_drewN ?_ _ | refine blk_drew ?_ | refine blk_alloc ?_ _)); refine blk_put (cs := #[.int .u32 0, .int .i64 0]) ?_ 0 _ rfl; (with_reducible repeat (first | refine blk_drewN ?_ _ | refine blk_drew ?_ | refine blk_alloc ?_ _)); exact BK269.out) hb); replace HB := Aside0.mk (below_step (by repeat (first | (with_reducible first | exact HB.out | apply bU | apply bS GE267.out | apply bS GE269.out) | exact HB.out)) hb); (try clear hb); (try clear hb2); (try clear hk); (try clear hi)))
         go_ret
         exact ⟨by first | rfl | (simp [errW_none, errW_some] <;> rfl) | (simp [*, errW_none, errW_some] <;> rfl), by repeat (first | (with_reducible first | exact HB.out | apply bU | apply bS GE267.out | apply bS GE269.out) | exact HB.out)⟩
       ·rw [if_neg c8] at H
        exact absurd H (by simp)
      ·rw [if_neg c7] at H
       exact absurd H (by simp)
     ·rw [if_neg c6] at H
      exact absurd H (by simp)
    ·rw [if_neg c5] at H
     have c5b0 : decide (x17_1 < (l0.length : Int)) = false := decide_eq_false c5
     clear c5
     obtain rfl := Option.some.inj H
     go_wp2
     go_ret
     exact ⟨by first | rfl | (simp [errW_none, errW_some] <;> rfl) | (simp [*, errW_none, errW_some] <;> rfl), kw_ HB⟩
 ·rw [if_neg c4] at H
  have c4b0 : ((l0.length : Int) == (l1.length : Int)) = false := beq_eq_false_iff_ne.mpr c4
  have c4b1 : ((l0.length : Int) != (l1.length : Int)) = true := bne_iff_ne.mpr c4
  have c4b2 : (l0.length == l1.length) = false := by first | simpa using c4 | (simp at c4 ⊢; omega)
  obtain rfl := Option.some.inj H
  go_enter Try.func49, Try.ntmps49
  go_wp2
  go_ret
  exact ⟨by first | rfl | (simp [errW_none, errW_some] <;> rfl) | (simp [*, errW_none, errW_some] <;> rfl), kw_ HB⟩

end Go.Proofs.Ytdkfhlfojleejaa.HLsc
