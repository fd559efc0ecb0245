/-
  OriginNil: the walk.
-/
import Derived.Test.YtdkfhlfojleejaaOrgW
namespace Go.Proofs.Ytdkfhlfojleejaa.HLsc
open Go.RowKit Go.Proofs.YtdkfhlfojleejaaW.PrintWords Go.Proofs.YtdkfhlfojleejaaW.PrintLast Go.Proofs.YtdkfhlfojleejaaW.PrintMore
open Go.Proofs.Ytdkfhlfojleejaa.LM Go.Proofs.Ytdkfhlfojleejaa.LS
attribute [local go_sem] gtr_str leq_str max2_int min2_int max_two min_two max_three min_three max_four min_four
set_option linter.unusedVariables false
set_option linter.unusedSimpArgs false
def waypointlaw36_OriginNil.f (k : Nat) (a0 : Int) (a1 : Int) (a2 : Int) (a3 : Bool) (l4 : List AD) (l5 : List PF) (n : Int) : Option Bool := some true
set_option maxHeartbeats 8000000 in
set_option maxRecDepth 100000 in
theorem waypointlaw36_OriginNil.calls (k : Nat) (a0 : Int) (a1 : Int) (a2 : Int) (a3 : Bool) (A4 : Option Addr) (c4 : Nat) (l4 : List AD) (A5 : Option Addr) (c5 : Nat) (l5 : List PF) (n : Int) (r : Bool) (w : World) (hr4 : Kd.C k72 w A4 l4.length l4) (hc4 : l4.length ≤ c4) (hr5 : Kd.C k76 w A5 l5.length l5) (hc5 : l5.length ≤ c5) (h : waypointlaw36_OriginNil.f k a0 a1 a2 a3 l4 l5 n = some r) :
    Calls Try.prog 7 #[.agg #[.int .i64 a0, .int .i64 a1, .int .i64 a2, .bool a3, .slice A4 l4.length c4, .slice A5 l5.length c5], .int .i64 n] w fun e w' => e = .returned (.bool r) ∧ Below w.heap.size w w' := by
  obtain rfl : true = r := Option.some.inj h
  have hu := Try.underlying32
  have hu2 := Try.underlying49
  clear hr4 hc4 hr5 hc5 h
  go_enter Try.func7, Try.ntmps7
  go_wp2_with (
    first
    | ((with_reducible refine gate_dst (N := 2) rfl ?_); refine box_event ?hg (N := 2) ?hd (cs := #[.int .i64 a0, .int .i64 a1, .int .i64 a2, .bool a3, .slice A4 l4.length c4, .slice A5 l5.length c5]) (t := 32) ?hr ?_; (case hd => rfl); (case hg => rfl); (case hr => first | (go_simp; done) | (go_simp; rfl)); intro b2 hg wa hbox hb; have H1 := Aside0.mk hb; have B2 := Aside0.mk hbox; have x0 : wa.cell? ⟨b2, 0, none⟩ = some (.int .i64 a0) := (blk_cell B2.out 0).trans rfl; have xf0 := blk_frozen B2.out 0; have x1 : wa.cell? ⟨b2, 1, none⟩ = some (.int .i64 a1) := (blk_cell B2.out 1).trans rfl; have xf1 := blk_frozen B2.out 1; have x2 : wa.cell? ⟨b2, 2, none⟩ = some (.int .i64 a2) := (blk_cell B2.out 2).trans rfl; have xf2 := blk_frozen B2.out 2; have x3 : wa.cell? ⟨b2, 3, none⟩ = some (.bool a3) := (blk_cell B2.out 3).trans rfl; have xf3 := blk_frozen B2.out 3; have x4 : wa.cell? ⟨b2, 4, none⟩ = some (.slice A4 l4.length c4) := (blk_cell B2.out 4).trans rfl; have xf4 := blk_frozen B2.out 4; have x5 : wa.cell? ⟨b2, 5, none⟩ = some (.slice A5 l5.length c5) := (blk_cell B2.out 5).trans rfl; have xf5 := blk_frozen B2.out 5; clear hbox hb hg)
    | ((with_reducible refine gate_callee (f := 17) rfl ?_); refine goesL_ (some 15) rfl rfl Try.func17 (by kernel_rfl) rfl #[.agg #[.int .i64 a0, .int .i64 a1, .int .i64 a2, .bool a3, .slice A4 l4.length c4, .slice A5 l5.length c5]] rfl (by (try simp only [List.map_toArray, List.map_cons, List.map_nil]); first | done | rfl | (simp only [List.length_drop, List.length_take]; rfl)) ?_; refine (contents_calls a0 a1 a2 a3 A4 A5 _ c4 _ c5 _).mono ?_; rintro e w1 ⟨rfl, hb⟩; refine ⟨_, rfl, ?_⟩; have H2 := Aside0.mk (below_step H1.out hb); have B2a := Aside0.mk (blk_below B2.out hb); clear hb)
    | ((with_reducible refine gate_callee (f := 16) rfl ?_); refine goesL_ (some 16) rfl rfl Try.func16 (by kernel_rfl) rfl #[.pointer none, .agg #[.bool a3, .slice A4 l4.length c4, .slice A5 l5.length c5]] rfl (by (try simp only [List.map_toArray, List.map_cons, List.map_nil]); first | done | rfl | (simp only [List.length_drop, List.length_take]; rfl)) ?_; refine (set_nil a3 A4 A5 _ c4 _ c5 _).mono ?_; rintro e w2 ⟨rfl, hb⟩; refine ⟨_, rfl, ?_⟩; have H3 := Aside0.mk (below_step H2.out hb); have B2b := Aside0.mk (blk_below B2a.out hb); clear hb x0 x1 x2 x3 x4 x5 xf0 xf1 xf2 xf3 xf4 xf5; have x0 : w2.cell? ⟨b2, 0, none⟩ = some (.int .i64 a0) := (blk_cell B2b.out 0).trans rfl; have xf0 := blk_frozen B2b.out 0; have x1 : w2.cell? ⟨b2, 1, none⟩ = some (.int .i64 a1) := (blk_cell B2b.out 1).trans rfl; have xf1 := blk_frozen B2b.out 1; have x2 : w2.cell? ⟨b2, 2, none⟩ = some (.int .i64 a2) := (blk_cell B2b.out 2).trans rfl; have xf2 := blk_frozen B2b.out 2; have x3 : w2.cell? ⟨b2, 3, none⟩ = some (.bool a3) := (blk_cell B2b.out 3).trans rfl; have xf3 := blk_frozen B2b.out 3; have x4 : w2.cell? ⟨b2, 4, none⟩ = some (.slice A4 l4.length c4) := (blk_cell B2b.out 4).trans rfl; have xf4 := blk_frozen B2b.out 4; have x5 : w2.cell? ⟨b2, 5, none⟩ = some (.slice A5 l5.length c5) := (blk_cell B2b.out 5).trans rfl; have xf5 := blk_frozen B2b.out 5)
    | ((with_reducible refine gate_callee (f := 18) rfl ?_); refine goesL_ (some 22) rfl rfl Try.func18 (by kernel_rfl) rfl #[.pointer none, .agg #[.int .i64 a0, .int .i64 a1, .int .i64 a2, .bool a3, .slice A4 l4.length c4, .slice A5 l5.length c5]] rfl (by (try simp only [List.map_toArray, List.map_cons, List.map_nil]); first | done | rfl | (simp only [List.length_drop, List.length_take]; rfl)) ?_; refine (hear_nil a0 a1 a2 a3 A4 A5 _ c4 _ c5 _).mono ?_; rintro e w3 ⟨rfl, hb⟩; refine ⟨_, rfl, ?_⟩; have H4 := Aside0.mk (below_step H3.out hb); clear hb x0 x1 x2 x3 x4 x5 xf0 xf1 xf2 xf3 xf4 xf5)
    | ((with_reducible refine gate_callee (f := 12) rfl ?_); refine goesL_ (some 27) rfl rfl Try.func12 (by kernel_rfl) rfl #[.pointer none] rfl (by (try simp only [List.map_toArray, List.map_cons, List.map_nil]); first | done | rfl | (simp only [List.length_drop, List.length_take]; rfl)) ?_; refine (current_nil _).mono ?_; rintro e w4 ⟨rfl, hb⟩; refine ⟨_, rfl, ?_⟩; have H5 := Aside0.mk (below_step H4.out hb); clear hb; dsimp only [ZL])
    | ((with_reducible refine gate_dst (N := 10) rfl ?_); refine box_event ?hg (N := 10) ?hd (cs := #[.int .i64 0, .int .i64 0, .int .i64 0, .bool false, .slice none 0 0, .slice none 0 0]) (t := 32) ?hr ?_; (case hd => rfl); (case hg => rfl); (case hr => first | (go_simp; done) | (go_simp; rfl)); intro b10 hg w5 hbox hb; have B10 := Aside0.mk hbox; have G10 := Aside0.mk (show w.heap.size ≤ b10 by rw [hg]; exact H5.out.size); have H6 := Aside0.mk (below_step H5.out hb); have y0 : w5.cell? ⟨b10, 0, none⟩ = some (.int .i64 0) := (blk_cell B10.out 0).trans rfl; have yf0 := blk_frozen B10.out 0; have y1 : w5.cell? ⟨b10, 1, none⟩ = some (.int .i64 0) := (blk_cell B10.out 1).trans rfl; have yf1 := blk_frozen B10.out 1; have y2 : w5.cell? ⟨b10, 2, none⟩ = some (.int .i64 0) := (blk_cell B10.out 2).trans rfl; have yf2 := blk_frozen B10.out 2; have y3 : w5.cell? ⟨b10, 3, none⟩ = some (.bool false) := (blk_cell B10.out 3).trans rfl; have yf3 := blk_frozen B10.out 3; have y4 : w5.cell? ⟨b10, 4, none⟩ = some (.slice none 0 0) := (blk_cell B10.out 4).trans rfl; have yf4 := blk_frozen B10.out 4; have y5 : w5.cell? ⟨b10, 5, none⟩ = some (.slice none 0 0) := (blk_cell B10.out 5).trans rfl; have yf5 := blk_frozen B10.out 5; clear hbox hb hg)
    | ((with_reducible refine gate_callee (f := 8) rfl ?_); refine goesL_ (some 30) rfl rfl Try.func8 (by kernel_rfl) rfl #[] rfl (by (try simp only [List.map_toArray, List.map_cons, List.map_nil]); first | done | rfl | (simp only [List.length_drop, List.length_take]; rfl)) ?_; refine (awake36 _).mono ?_; rintro e w6 ⟨rfl, hb⟩; refine ⟨_, rfl, ?_⟩; have H7 := Aside0.mk (below_step (below_set (below_set (below_set (below_set (below_set (below_set H6.out G10.out (j := 0) (v := .int .i64 0)) G10.out (j := 1) (v := .int .i64 0)) G10.out (j := 2) (v := .int .i64 0)) G10.out (j := 3) (v := .bool false)) G10.out (j := 4) (v := .slice none 0 0)) G10.out (j := 5) (v := .slice none 0 0)) hb); clear hb)
    )
  refine (tick_nil n _).mono ?_
  rintro e w7 ⟨rfl, hb⟩
  have H8 := Aside0.mk (below_step H7.out hb)
  clear hb
  dsimp only
  go_wp2_with fail
  refine (floor_nil _).mono ?_
  rintro e w8 ⟨rfl, hb⟩
  have H9 := Aside0.mk (below_step H8.out hb)
  clear hb
  dsimp only
  go_wp2_with fail
  go_ret
  exact ⟨rfl, H9.out⟩
end Go.Proofs.Ytdkfhlfojleejaa.HLsc
