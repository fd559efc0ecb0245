/-
  OriginGrows: the walk (printed by gen/gen_gro.py).
-/
import Derived.Test.YtdkfhlfojleejaaOrgK
import Derived.Test.YtdkfhlfojleejaaHLscx11
namespace Go.Proofs.Ytdkfhlfojleejaa.HLsc
open Go.RowKit Go.Proofs.YtdkfhlfojleejaaW.PrintWords Go.Proofs.YtdkfhlfojleejaaW.PrintLast Go.Proofs.YtdkfhlfojleejaaW.PrintMore
open Go.Proofs.Ytdkfhlfojleejaa.LM Go.Proofs.Ytdkfhlfojleejaa.LS
attribute [local go_sem] gtr_str leq_str max2_int min2_int max_two min_two max_three min_three max_four min_four
set_option linter.unusedVariables false
set_option linter.unusedSimpArgs false
set_option linter.unusedSectionVars false
def gg.T26 : Bool × List (List Nat × List Nat) := (true, [([], []), ([0], [0]), ([], []), ([1, 2], [1, 2]), ([3, 1], [3]), ([4], [4]), ([5, 4, 4], [4, 5]), ([6], [6]), ([7, 6], [6, 7]), ([6, 8, 4], [4, 6, 8]), ([4, 9], [4, 9]), ([10, 6], [10]), ([11], [11]), ([12, 11, 11], [11, 12]), ([13], [13]), ([14, 13, 13], [13, 14]), ([15, 13], [13, 15]), ([16, 15, 13], [13, 16]), ([17], [17]), ([18, 17], [17, 18]), ([17], [17]), ([19, 20, 17], [17, 19, 20]), ([17, 21, 13], [13, 17, 21]), ([22, 17, 13], [13, 22]), ([23], [23]), ([24, 23], [23, 24]), ([23], [23]), ([26, 23, 23], [23, 26]), ([25, 27, 23], [23, 25, 27]), ([23, 28, 13], [13, 23, 28]), ([13, 29, 11], [11, 13, 29]), ([11, 30], [11, 30])])
def gg.B26 : List Nat := [0, 1, 0, 7, 15, 31, 63, 127, 255, 511, 1023, 2047, 4095, 8191, 16383, 32767, 65535, 131071, 262143, 524287, 262143, 2097151, 4194303, 8388607, 16777215, 33554431, 16777215, 83886079, 268435455, 536870911, 1073741823, 2147483647]
theorem gg.tab26 : rtab .any (opsOf Try.f4 26) = gg.T26 := by kernel_rfl
theorem gg.bits26 : waitsOk gg.T26.2 gg.B26 = true := by kernel_rfl
def gg.T32 : Bool × List (List Nat × List Nat) := (true, [([], []), ([], []), ([], []), ([1, 2], [1, 2]), ([3], [3]), ([0, 4], [0, 4]), ([5], [5])])
def gg.B32 : List Nat := [0, 0, 0, 6, 14, 31, 63]
theorem gg.tab32 : rtab .any (opsOf Try.f4 32) = gg.T32 := by kernel_rfl
theorem gg.bits32 : waitsOk gg.T32.2 gg.B32 = true := by kernel_rfl
open Classical in
noncomputable def waypointlaw36_OriginGrows.f (k : Nat) (a0 : Int) (l1 : List S38) : Option Bool := if (0 ≤ a0 ∧ a0 ≤ 255) ∧ (∀ x ∈ l1, G32 x.f2.f5) then some true else none
set_option maxHeartbeats 16000000 in
set_option maxRecDepth 100000 in
theorem waypointlaw36_OriginGrows.calls (k : Nat) (a0 : Int) (A1 : Option Addr) (c1 : Nat) (l1 : List S38) (r : Bool) (w : World) (hr1 : Kd.C k38 w A1 l1.length l1) (hc1 : l1.length ≤ c1) (h : waypointlaw36_OriginGrows.f k a0 l1 = some r) :
    Calls Try.prog 4 #[.int .u8 a0, .slice A1 l1.length c1] w fun e w' => e = .returned (.bool r) ∧ Below w.heap.size w w' := by
  have hu := Try.underlying32
  have hu3 := Try.underlying38
  unfold waypointlaw36_OriginGrows.f at h
  by_cases hall : (0 ≤ a0 ∧ a0 ≤ 255) ∧ (∀ x ∈ l1, G32 x.f2.f5)
  rotate_left
  · rw [if_neg hall] at h
    cases h
  rw [if_pos hall] at h
  obtain rfl : true = r := Option.some.inj h
  obtain ⟨⟨a00, a01⟩, hgg⟩ := hall
  have HGG := Aside0.mk hgg
  have HR1 := Aside0.mk hr1
  have HC1 := Aside0.mk hc1
  have hmx : l1.length ≤ 9223372036854775807 := hr1.2.1
  obtain ⟨fb, hfb, hfw⟩ := few_all l1 hmx
  have HF := Aside0.mk hfb
  have HFW := Aside0.mk hfw
  clear h hgg hr1 hc1 hfb hfw
  obtain ⟨n, hn⟩ : ∃ n : Int, a0 % 64 = n := ⟨_, rfl⟩
  have n0 : 0 ≤ n := by omega
  have n1 : n ≤ 63 := by omega
  go_enter Try.func4, Try.ntmps4
  go_upto_region 3 with (
    first
    | ((with_reducible refine gate_callee (f := 8) rfl ?_); refine goesL_ (some 17) rfl rfl Try.func8 (by kernel_rfl) rfl #[] rfl (by (try simp only [List.map_toArray, List.map_cons, List.map_nil]); first | done | rfl | (simp only [List.length_drop, List.length_take]; rfl)) ?_; refine (awake36 _).mono ?_; rintro e w1 ⟨rfl, hb⟩; refine ⟨_, rfl, ?_⟩; have H1 := Aside0.mk hb; clear hb))
  cases fb with
  | false =>
    go_wp2_with (
      first
      | ((with_reducible refine gate_callee (f := 9) rfl ?_); refine goesL_ (some 20) rfl rfl Try.func9 (by kernel_rfl) rfl #[.slice A1 l1.length c1] rfl (by (try simp only [List.map_toArray, List.map_cons, List.map_nil]); first | done | rfl | (simp only [List.length_drop, List.length_take]; rfl)) ?_; refine (waypointlaw36_few.calls (l1.length + 1) A1 c1 l1 false _ (Kd.C_below HR1.out H1.out) HC1.out HF.out).mono ?_; rintro e w2 ⟨rfl, hb⟩; refine ⟨_, rfl, ?_⟩; have H2 := Aside0.mk (below_step H1.out hb); clear hb))
    go_ret
    exact ⟨rfl, H2.out⟩
  | true =>
  obtain ⟨hl15, hfew⟩ := HFW.out rfl
  have FE := Aside0.mk hfew
  clear hfew HFW
  go_upto_region 6 with (
    first
    | ((with_reducible refine gate_callee (f := 9) rfl ?_); refine goesL_ (some 20) rfl rfl Try.func9 (by kernel_rfl) rfl #[.slice A1 l1.length c1] rfl (by (try simp only [List.map_toArray, List.map_cons, List.map_nil]); first | done | rfl | (simp only [List.length_drop, List.length_take]; rfl)) ?_; refine (waypointlaw36_few.calls (l1.length + 1) A1 c1 l1 true _ (Kd.C_below HR1.out H1.out) HC1.out HF.out).mono ?_; rintro e w2 ⟨rfl, hb⟩; refine ⟨_, rfl, ?_⟩; have H2 := Aside0.mk (below_step H1.out hb); clear hb))
  rw [hn]
  go_wp2_with (
    first
    | ((with_reducible refine gate_callee (f := 10) rfl ?_); refine goesL_ (some 27) rfl rfl Try.func10 (by kernel_rfl) rfl #[.int .i64 n] rfl (by (try simp only [List.map_toArray, List.map_cons, List.map_nil]); first | done | rfl | (simp only [List.length_drop, List.length_take]; rfl)) ?_; refine (@new_calls (ZI (.slice none 0 0)) n _ n0 n1 (fun _ h => absurd (show (none : Option Nat) = some _ from h) (by simp))).mono ?_; rintro e w3 ⟨g, rfl, hg, hO, hb⟩; refine ⟨_, rfl, ?_⟩; have D0 := Aside0.mk (GW.start hO (below_step H2.out hb) (Nat.le_trans H2.out.size hg)); clear hg hO hb))
  go_loopw [8, 9, 10] (fun v8 v9 v10 wr => ∃ (s : OS) (i : Int) (l : List L), v9 = .int .i64 s.floor ∧ v10 = .int .i64 i ∧ Aside0 (0 ≤ i ∧ i ≤ l1.length) ∧ Aside0 (Inv n s) ∧ Aside0 (∀ a ∈ l, Valid a ∧ a.s ≤ s.floor) ∧ Aside0 ((l.length : Int) ≤ 2 * i) ∧ Aside0 (GW w g wr s v8 l)) (fun _ _ v10 _ => ((l1.length : Int) - intOf v10).toNat)
  case atStart => exact ⟨⟨false, [], [], n, 0, 0, false⟩, 0, [], rfl, rfl, ⟨by omega, by omega⟩, ⟨inv_new n n0 n1⟩, ⟨fun a h => by cases h⟩, ⟨by simp⟩, D0⟩
  case round =>
    clear D0 H1 H2
    obtain ⟨s, i, l, rfl, rfl, hi, IV, VK, HL, D⟩ := hrel
    have i0 := hi.out.1
    have i1 := hi.out.2
    by_cases ci : i < (l1.length : Int)
    rotate_left
    · go_wp2_with fail
      go_ret
      exact ⟨rfl, D.out.HB⟩
    obtain ⟨A8, c8, rfl, hc8⟩ := D.out.slice
    have l30 : l.length ≤ 30 := by have := HL.out; omega
    obtain ⟨ad, B6, d6, B7, d7, hA, hx0, hx1, hx2, hx3, hx4, hx5, hx6, hx7, m6, k6, m7, k7⟩ := at_T38 HR1.out i i0 ci
    have mv : ∀ a v, w.cell? a = some v → _ := fun a v h => (D.out.HB.cell (World.block_lt_of_cell? w a h)).trans h
    replace hx0 := mv _ _ hx0
    replace hx1 := mv _ _ hx1
    replace hx2 := mv _ _ hx2
    replace hx3 := mv _ _ hx3
    replace hx4 := mv _ _ hx4
    replace hx5 := mv _ _ hx5
    replace hx6 := mv _ _ hx6
    replace hx7 := mv _ _ hx7
    clear mv
    have hxm : rd_T38 l1 i ∈ l1 := by
      have hn : i.toNat < l1.length := by omega
      have e : rd_T38 l1 i = l1[i.toNat] := by simp [rd_T38, List.getD_eq_getElem?_getD, List.getElem?_eq_getElem hn]
      rw [e]
      exact List.getElem_mem hn
    have GX := Aside0.mk (HGG.out _ hxm)
    have FX := Aside0.mk (FE.out _ hxm)
    clear hxm
    generalize rd_T38 l1 i = x at hx0 hx1 hx2 hx3 hx4 hx5 hx6 hx7 m6 k6 m7 k7 GX FX
    have RX := Aside0.mk (show RdL w x.f2.f4 x.f2.f5 B6 d6 B7 d7 from ⟨m6, k6, m7, k7⟩)
    clear m6 k6 m7 k7
    subst hA
    go_upto_region 15 with (
      first
      | ((with_reducible refine gate_dst (N := 11) rfl ?_); refine box_event ?hg (N := 11) ?hd (cs := #[.int .i64 0, .int .i64 0, .int .i64 0, .int .i64 0, .int .i64 0, .bool false, .slice none 0 0, .slice none 0 0]) (t := 38) ?hr ?_; (case hd => rfl); (case hg => rfl); (case hr => first | (go_simp; done) | (go_simp; rfl)); intro b11 hg wb hbox hb; have B11 := Aside0.mk hbox; have G11 := Aside0.mk (Nat.le_of_eq hg.symm); have HB11 := Aside0.mk hb; clear hx0 hx1 hx2 hx3 hx4 hx5 hx6 hx7; have x0 : wb.cell? ⟨b11, 0, none⟩ = some (.int .i64 0) := (blk_cell B11.out 0).trans rfl; have xf0 := blk_frozen B11.out 0; have x1 : wb.cell? ⟨b11, 1, none⟩ = some (.int .i64 0) := (blk_cell B11.out 1).trans rfl; have xf1 := blk_frozen B11.out 1; have x2 : wb.cell? ⟨b11, 2, none⟩ = some (.int .i64 0) := (blk_cell B11.out 2).trans rfl; have xf2 := blk_frozen B11.out 2; have x3 : wb.cell? ⟨b11, 3, none⟩ = some (.int .i64 0) := (blk_cell B11.out 3).trans rfl; have xf3 := blk_frozen B11.out 3; have x4 : wb.cell? ⟨b11, 4, none⟩ = some (.int .i64 0) := (blk_cell B11.out 4).trans rfl; have xf4 := blk_frozen B11.out 4; have x5 : wb.cell? ⟨b11, 5, none⟩ = some (.bool false) := (blk_cell B11.out 5).trans rfl; have xf5 := blk_frozen B11.out 5; have x6 : wb.cell? ⟨b11, 6, none⟩ = some (.slice none 0 0) := (blk_cell B11.out 6).trans rfl; have xf6 := blk_frozen B11.out 6; have x7 : wb.cell? ⟨b11, 7, none⟩ = some (.slice none 0 0) := (blk_cell B11.out 7).trans rfl; have xf7 := blk_frozen B11.out 7; clear hbox hb hg))
    have B12 := Aside0.mk (blk_put (cs' := #[.int .i64 x.f0, .int .i64 x.f1, .int .i64 x.f2.f0, .int .i64 x.f2.f1, .int .i64 x.f2.f2, .bool x.f2.f3, .slice B6 x.f2.f4.length d6, .slice B7 x.f2.f5.length d7]) (blk_put (cs' := #[.int .i64 x.f0, .int .i64 x.f1, .int .i64 x.f2.f0, .int .i64 x.f2.f1, .int .i64 x.f2.f2, .bool x.f2.f3, .slice B6 x.f2.f4.length d6, .slice none 0 0]) (blk_put (cs' := #[.int .i64 x.f0, .int .i64 x.f1, .int .i64 x.f2.f0, .int .i64 x.f2.f1, .int .i64 x.f2.f2, .bool x.f2.f3, .slice none 0 0, .slice none 0 0]) (blk_put (cs' := #[.int .i64 x.f0, .int .i64 x.f1, .int .i64 x.f2.f0, .int .i64 x.f2.f1, .int .i64 x.f2.f2, .bool false, .slice none 0 0, .slice none 0 0]) (blk_put (cs' := #[.int .i64 x.f0, .int .i64 x.f1, .int .i64 x.f2.f0, .int .i64 x.f2.f1, .int .i64 0, .bool false, .slice none 0 0, .slice none 0 0]) (blk_put (cs' := #[.int .i64 x.f0, .int .i64 x.f1, .int .i64 x.f2.f0, .int .i64 0, .int .i64 0, .bool false, .slice none 0 0, .slice none 0 0]) (blk_put (cs' := #[.int .i64 x.f0, .int .i64 x.f1, .int .i64 0, .int .i64 0, .int .i64 0, .bool false, .slice none 0 0, .slice none 0 0]) (blk_put (cs' := #[.int .i64 x.f0, .int .i64 0, .int .i64 0, .int .i64 0, .int .i64 0, .bool false, .slice none 0 0, .slice none 0 0]) B11.out 0 (.int .i64 x.f0) rfl) 1 (.int .i64 x.f1) rfl) 2 (.int .i64 x.f2.f0) rfl) 3 (.int .i64 x.f2.f1) rfl) 4 (.int .i64 x.f2.f2) rfl) 5 (.bool x.f2.f3) rfl) 6 (.slice B6 x.f2.f4.length d6) rfl) 7 (.slice B7 x.f2.f5.length d7) rfl)
    have HB12 := Aside0.mk (below_set (below_set (below_set (below_set (below_set (below_set (below_set (below_set HB11.out G11.out (j := 0) (v := .int .i64 x.f0)) G11.out (j := 1) (v := .int .i64 x.f1)) G11.out (j := 2) (v := .int .i64 x.f2.f0)) G11.out (j := 3) (v := .int .i64 x.f2.f1)) G11.out (j := 4) (v := .int .i64 x.f2.f2)) G11.out (j := 5) (v := .bool x.f2.f3)) G11.out (j := 6) (v := .slice B6 x.f2.f4.length d6)) G11.out (j := 7) (v := .slice B7 x.f2.f5.length d7))
    clear B11 HB11 x0 x1 x2 x3 x4 x5 x6 x7 xf0 xf1 xf2 xf3 xf4 xf5 xf6 xf7
    generalize ((((((((wb.setCell ⟨b11, 0, none⟩ (.int .i64 x.f0)).setCell ⟨b11, 1, none⟩ (.int .i64 x.f1)).setCell ⟨b11, 2, none⟩ (.int .i64 x.f2.f0)).setCell ⟨b11, 3, none⟩ (.int .i64 x.f2.f1)).setCell ⟨b11, 4, none⟩ (.int .i64 x.f2.f2)).setCell ⟨b11, 5, none⟩ (.bool x.f2.f3)).setCell ⟨b11, 6, none⟩ (.slice B6 x.f2.f4.length d6)).setCell ⟨b11, 7, none⟩ (.slice B7 x.f2.f5.length d7)) = wc at B12 HB12 ⊢
    replace D := Aside0.mk (D.out.below HB12.out)
    have GB := Aside0.mk (show b11 ≠ g from fun e => by have h1 := G11.out; have h2 := D.out.O; obtain ⟨_, _, h3, _⟩ := h2; exact absurd ((blk_ne B12.out h3 (by decide)) e) id)
    clear HB12
    have x0 : wc.cell? ⟨b11, 0, none⟩ = some (.int .i64 x.f0) := (blk_cell B12.out 0).trans rfl; have xf0 := blk_frozen B12.out 0; have x1 : wc.cell? ⟨b11, 1, none⟩ = some (.int .i64 x.f1) := (blk_cell B12.out 1).trans rfl; have xf1 := blk_frozen B12.out 1; have x2 : wc.cell? ⟨b11, 2, none⟩ = some (.int .i64 x.f2.f0) := (blk_cell B12.out 2).trans rfl; have xf2 := blk_frozen B12.out 2; have x3 : wc.cell? ⟨b11, 3, none⟩ = some (.int .i64 x.f2.f1) := (blk_cell B12.out 3).trans rfl; have xf3 := blk_frozen B12.out 3; have x4 : wc.cell? ⟨b11, 4, none⟩ = some (.int .i64 x.f2.f2) := (blk_cell B12.out 4).trans rfl; have xf4 := blk_frozen B12.out 4; have x5 : wc.cell? ⟨b11, 5, none⟩ = some (.bool x.f2.f3) := (blk_cell B12.out 5).trans rfl; have xf5 := blk_frozen B12.out 5; have x6 : wc.cell? ⟨b11, 6, none⟩ = some (.slice B6 x.f2.f4.length d6) := (blk_cell B12.out 6).trans rfl; have xf6 := blk_frozen B12.out 6; have x7 : wc.cell? ⟨b11, 7, none⟩ = some (.slice B7 x.f2.f5.length d7) := (blk_cell B12.out 7).trans rfl; have xf7 := blk_frozen B12.out 7
    by_cases k0 : x.f0 = 0
    · have q0 : decide (x.f0 = 0) = true := decide_eq_true k0
      have q0' : (x.f0 == 0) = true := by simp [k0]
      clear k0
      obtain ⟨⟨s1, made, er⟩, hs⟩ : ∃ p, s.setP x.f2.f3 x.f2.f4 x.f2.f5 = p := ⟨_, rfl⟩
      have hI := inv_set IV.out x.f2.f3 x.f2.f4 x.f2.f5 GX.out
      rw [hs] at hI
      dsimp only at hI
      have HS := Aside0.mk hs
      have HI := Aside0.mk hI
      clear hs hI
      go_upto_region 25 with (
        first
        | ((with_reducible refine gate_callee (f := 17) rfl ?_); refine goesL_ (some 54) rfl rfl Try.func17 (by kernel_rfl) rfl #[.agg #[.int .i64 x.f2.f0, .int .i64 x.f2.f1, .int .i64 x.f2.f2, .bool x.f2.f3, .slice B6 x.f2.f4.length d6, .slice B7 x.f2.f5.length d7]] rfl (by (try simp only [List.map_toArray, List.map_cons, List.map_nil]); first | done | rfl | (simp only [List.length_drop, List.length_take]; rfl)) ?_; refine (contents_calls x.f2.f0 x.f2.f1 x.f2.f2 x.f2.f3 B6 B7 _ d6 _ d7 _).mono ?_; rintro e w4 ⟨rfl, hb⟩; refine ⟨_, rfl, ?_⟩; have D4 := Aside0.mk (D.out.below hb); clear hb x0 x1 x2 x3 x4 x5 x6 x7 xf0 xf1 xf2 xf3 xf4 xf5 xf6 xf7)
        | ((with_reducible refine gate_callee (f := 16) rfl ?_); refine goesL_ (some 55) rfl rfl Try.func16 (by kernel_rfl) rfl #[.pointer (some ⟨g, 0, none⟩), .agg #[.bool x.f2.f3, .slice B6 x.f2.f4.length d6, .slice B7 x.f2.f5.length d7]] rfl (by (try simp only [List.map_toArray, List.map_cons, List.map_nil]); first | done | rfl | (simp only [List.length_drop, List.length_take]; rfl)) ?_; refine (@setP_calls (ZI (.slice A8 l.length c8)) g s x.f2.f3 _ _ x.f2.f4 x.f2.f5 _ D4.out.O (RX.out.below D4.out.HB).A (RX.out.below D4.out.HB).P (by have := FX.out.1; omega) (by have := FX.out.2.1; omega) (by have := IV.out.la; omega) (by have := IV.out.lp; omega) GX.out).mono ?_; rintro e wk ⟨rfl, hO, hM⟩; refine ⟨_, rfl, ?_⟩; simp only [HS.out] at hO ⊢; have DK := Aside0.mk (D4.out.mut hM hO); clear hO hM))
      have IV1 := Aside0.mk HI.out.1
      have FL := Aside0.mk HI.out.2.1
      have MD := Aside0.mk (fun h => (HI.out.2.2 h).1)
      have VK1 := Aside0.mk (show ∀ a ∈ l, Valid a ∧ a.s ≤ s1.floor ∧ (made = true → a.s < s1.floor) from fun a h => ⟨(VK.out a h).1, Int.le_trans (VK.out a h).2 HI.out.2.1, fun m => Int.lt_of_le_of_lt (VK.out a h).2 (HI.out.2.2 m).2⟩)
      have HL1 := Aside0.mk (show (l.length : Int) ≤ 2 * i + 1 by have := HL.out; omega)
      clear HS HI D4
      obtain ⟨ov, adj, pre, nd, fl, ag, cu⟩ := s1
      obtain rfl : n = nd := IV1.out.node.symm
      have qf : decide (fl < s.floor) = false := decide_eq_false (by have h : s.floor ≤ fl := FL.out; omega)
      cases cu with
      | false =>
        obtain rfl : made = false := by
          cases made with
          | false => rfl
          | true => exact absurd (MD.out rfl) (by simp)
        go_upto_region 26 with (
          first
          | ((with_reducible refine gate_callee (f := 12) rfl ?_); refine goesL_ (some 76) rfl rfl Try.func12 (by kernel_rfl) rfl #[.pointer (some ⟨g, 0, none⟩)] rfl (by (try simp only [List.map_toArray, List.map_cons, List.map_nil]); first | done | rfl | (simp only [List.length_drop, List.length_take]; rfl)) ?_; refine (@current_none (ZI (.slice A8 l.length c8)) g ⟨ov, adj, pre, n, fl, ag, false⟩ _ DK.out.O rfl).mono ?_; rintro e w5 ⟨rfl, hb⟩; refine ⟨_, rfl, ?_⟩; have D5 := Aside0.mk (DK.out.below hb); clear hb)
          | ((with_reducible refine gate_dst (N := 14) rfl ?_); refine box_event ?hg (N := 14) ?hd (cs := #[.int .i64 0, .int .i64 0, .int .i64 0, .bool false, .slice none 0 0, .slice none 0 0]) (t := 32) ?hr ?_; (case hd => rfl); (case hg => rfl); (case hr => first | (go_simp; done) | (go_simp; rfl)); intro b14 hg w6 hbox hb; have B14 := Aside0.mk hbox; have G14 := Aside0.mk (Nat.le_of_eq hg.symm); have HB14 := Aside0.mk hb; have z0 : w6.cell? ⟨b14, 0, none⟩ = some (.int .i64 0) := (blk_cell B14.out 0).trans rfl; have zf0 := blk_frozen B14.out 0; have z1 : w6.cell? ⟨b14, 1, none⟩ = some (.int .i64 0) := (blk_cell B14.out 1).trans rfl; have zf1 := blk_frozen B14.out 1; have z2 : w6.cell? ⟨b14, 2, none⟩ = some (.int .i64 0) := (blk_cell B14.out 2).trans rfl; have zf2 := blk_frozen B14.out 2; have z3 : w6.cell? ⟨b14, 3, none⟩ = some (.bool false) := (blk_cell B14.out 3).trans rfl; have zf3 := blk_frozen B14.out 3; have z4 : w6.cell? ⟨b14, 4, none⟩ = some (.slice none 0 0) := (blk_cell B14.out 4).trans rfl; have zf4 := blk_frozen B14.out 4; have z5 : w6.cell? ⟨b14, 5, none⟩ = some (.slice none 0 0) := (blk_cell B14.out 5).trans rfl; have zf5 := blk_frozen B14.out 5; clear hbox hb hg))
        have B15 := Aside0.mk (blk_put (cs' := #[.int .i64 0, .int .i64 0, .int .i64 0, .bool false, .slice none 0 0, .slice none 0 0]) (blk_put (cs' := #[.int .i64 0, .int .i64 0, .int .i64 0, .bool false, .slice none 0 0, .slice none 0 0]) (blk_put (cs' := #[.int .i64 0, .int .i64 0, .int .i64 0, .bool false, .slice none 0 0, .slice none 0 0]) (blk_put (cs' := #[.int .i64 0, .int .i64 0, .int .i64 0, .bool false, .slice none 0 0, .slice none 0 0]) (blk_put (cs' := #[.int .i64 0, .int .i64 0, .int .i64 0, .bool false, .slice none 0 0, .slice none 0 0]) (blk_put (cs' := #[.int .i64 0, .int .i64 0, .int .i64 0, .bool false, .slice none 0 0, .slice none 0 0]) B14.out 0 (.int .i64 0) rfl) 1 (.int .i64 0) rfl) 2 (.int .i64 0) rfl) 3 (.bool false) rfl) 4 (.slice none 0 0) rfl) 5 (.slice none 0 0) rfl)
        have HB15 := Aside0.mk (below_set (below_set (below_set (below_set (below_set (below_set HB14.out G14.out (j := 0) (v := .int .i64 0)) G14.out (j := 1) (v := .int .i64 0)) G14.out (j := 2) (v := .int .i64 0)) G14.out (j := 3) (v := .bool false)) G14.out (j := 4) (v := .slice none 0 0)) G14.out (j := 5) (v := .slice none 0 0))
        clear B14 HB14 G14 z0 z1 z2 z3 z4 z5 zf0 zf1 zf2 zf3 zf4 zf5
        generalize ((((((w6.setCell ⟨b14, 0, none⟩ (.int .i64 0)).setCell ⟨b14, 1, none⟩ (.int .i64 0)).setCell ⟨b14, 2, none⟩ (.int .i64 0)).setCell ⟨b14, 3, none⟩ (.bool false)).setCell ⟨b14, 4, none⟩ (.slice none 0 0)).setCell ⟨b14, 5, none⟩ (.slice none 0 0)) = w7 at B15 HB15 ⊢
        have D7 := Aside0.mk (D5.out.below HB15.out)
        clear D5 HB15 DK
        refine start_ (n := 32) (S := fun w' => w'.cell? ⟨b14, 0, none⟩ = some (.int .i64 0) ∧ w'.cell? ⟨b14, 1, none⟩ = some (.int .i64 0) ∧ w'.cell? ⟨b14, 2, none⟩ = some (.int .i64 0) ∧ w'.cell? ⟨b14, 3, none⟩ = some (.bool false) ∧ w'.cell? ⟨b14, 4, none⟩ = some (.slice none 0 0) ∧ w'.cell? ⟨b14, 5, none⟩ = some (.slice none 0 0)) (ds := []) #[false, false, false, false, false, false, false, false, false, false, false, false, false, false, false, false, false, false, false, false, false, false, false, false, false, false, false, false, false, false, false, false] (by kernel_rfl) rfl rfl ⟨(blk_cell B15.out 0).trans rfl, (blk_cell B15.out 1).trans rfl, (blk_cell B15.out 2).trans rfl, (blk_cell B15.out 3).trans rfl, (blk_cell B15.out 4).trans rfl, (blk_cell B15.out 5).trans rfl⟩ (fun hHeld => ?_); refine with_tabW gg.tab26 gg.bits26 (fun HT_ HW_ => ?_)
        replace D7 := Aside0.mk (D7.out.below (below_drew (Below.refl _ _)))
        replace B15 := Aside0.mk (blk_below B15.out (below_drew (Below.refl _ _)))
        generalize w7.drew = w8 at D7 B15 hHeld ⊢
        refine pz 0 79 HT_ rfl rfl (by kernel_rfl) (fun _ _ _ h => h) (Or.inl ⟨by rfl, by intro w'; go_simp; with_reducible rfl⟩) (by simp only [Act.put, List.setIfInBounds_toArray, List.set_cons_zero, List.set_cons_succ, i64_w, i32_w]; rfl) ?_
        refine pz 2 81 HT_ rfl rfl (by kernel_rfl) (fun _ _ _ h => h) (Or.inl ⟨by rfl, by intro w'; go_simp; with_reducible rfl⟩) (by simp only [Act.put, List.setIfInBounds_toArray, List.set_cons_zero, List.set_cons_succ, i64_w, i32_w]; rfl) ?_
        refine one_ (i := 1) (N := some 80) #[true, true, true, false, false, false, false, false, false, false, false, false, false, false, false, false, false, false, false, false, false, false, false, false, false, false, false, false, false, false, false, false] rfl rfl (one_of HT_.out (by kernel_rfl)) (by decide) (fun K hK => ?_)
        refine goes_ Try.func15 (by kernel_rfl) rfl #[.pointer (some ⟨g, 0, none⟩)] (by rfl) rfl rfl (by (try simp only [List.map_toArray, List.map_cons, List.map_nil]); first | done | rfl | (simp only [List.length_drop, List.length_take]; rfl)) ?_
        refine (@floor_calls (ZI (.slice A8 l.length c8)) g ⟨ov, adj, pre, n, fl, ag, false⟩ _ D7.out.O).mono ?_
        rintro e w9 ⟨rfl, hb⟩
        refine ⟨_, rfl, ?_⟩
        replace D7 := Aside0.mk (D7.out.below hb)
        replace B15 := Aside0.mk (blk_below B15.out hb)
        clear hb
        refine hK.out _ _ ⟨(blk_cell B15.out 0).trans rfl, (blk_cell B15.out 1).trans rfl, (blk_cell B15.out 2).trans rfl, (blk_cell B15.out 3).trans rfl, (blk_cell B15.out 4).trans rfl, (blk_cell B15.out 5).trans rfl⟩ (fun hHeld => ?_)
        clear hK K
        refine norm_ (a' := ?_) ?_ ?_
        rotate_left
        · show Act.put _ (some 80) _ = _
          simp only [Act.put, List.setIfInBounds_toArray, List.set_cons_zero, List.set_cons_succ, i64_w, i32_w]
          rfl
        refine pz 3 82 HT_ rfl rfl (by kernel_rfl) (fun _ _ _ h => h) (Or.inl ⟨by rfl, by intro w'; go_simp; with_reducible rfl⟩) (by simp only [Act.put, List.setIfInBounds_toArray, List.set_cons_zero, List.set_cons_succ, i64_w, i32_w]; rfl) ?_
        try rw [qf]
        refine pz 4 83 HT_ rfl rfl (by kernel_rfl) (fun _ _ _ h => h) (Or.inl ⟨by rfl, by intro w'; go_simp; with_reducible rfl⟩) (by simp only [Act.put, List.setIfInBounds_toArray, List.set_cons_zero, List.set_cons_succ, i64_w, i32_w]; rfl) ?_
        refine pz 5 84 HT_ rfl rfl (by kernel_rfl) (fun _ _ _ h => h) (Or.inl ⟨by rfl, by intro w'; go_simp; with_reducible rfl⟩) (by simp only [Act.put, List.setIfInBounds_toArray, List.set_cons_zero, List.set_cons_succ, i64_w, i32_w]; rfl) ?_
        refine pz 6 85 HT_ rfl rfl (by kernel_rfl) (fun _ _ _ h => h) (Or.inl ⟨by rfl, by intro w'; go_simp; with_reducible rfl⟩) (by simp only [Act.put, List.setIfInBounds_toArray, List.set_cons_zero, List.set_cons_succ, i64_w, i32_w]; rfl) ?_
        refine pz (v := undef) 7 86 HT_ rfl rfl (by kernel_rfl) (fun _ _ _ h => h) (Or.inr ⟨by rfl, rfl⟩) (by simp only [Act.put, List.setIfInBounds_toArray, List.set_cons_zero, List.set_cons_succ, i64_w, i32_w]; rfl) ?_
        refine pz (v := undef) 8 87 HT_ rfl rfl (by kernel_rfl) (fun _ _ _ h => h) (Or.inr ⟨by rfl, rfl⟩) (by simp only [Act.put, List.setIfInBounds_toArray, List.set_cons_zero, List.set_cons_succ, i64_w, i32_w]; rfl) ?_
        refine pz 9 88 HT_ rfl rfl (by kernel_rfl) (fun _ _ _ h => h) (Or.inl ⟨by rfl, by intro w'; go_simp; with_reducible rfl⟩) (by simp only [Act.put, List.setIfInBounds_toArray, List.set_cons_zero, List.set_cons_succ, i64_w, i32_w]; rfl) ?_
        refine pz 10 89 HT_ rfl rfl (by kernel_rfl) (fun _ _ _ h => h) (Or.inl ⟨by rfl, by intro w'; go_simp; with_reducible rfl⟩) (by simp only [Act.put, List.setIfInBounds_toArray, List.set_cons_zero, List.set_cons_succ, i64_w, i32_w]; rfl) ?_
        refine pz 11 90 HT_ rfl rfl (by kernel_rfl) (fun _ _ _ h => h) (Or.inl ⟨by rfl, by intro w'; go_simp; with_reducible rfl⟩) (by simp only [Act.put, List.setIfInBounds_toArray, List.set_cons_zero, List.set_cons_succ, i64_w, i32_w]; rfl) ?_
        refine pz 12 91 HT_ rfl rfl (by kernel_rfl) (fun _ _ _ h => h) (Or.inl ⟨by rfl, by intro w'; go_simp; with_reducible rfl⟩) (by simp only [Act.put, List.setIfInBounds_toArray, List.set_cons_zero, List.set_cons_succ, i64_w, i32_w]; rfl) ?_
        refine pz 13 92 HT_ rfl rfl (by kernel_rfl) (fun _ _ _ h => h) (Or.inl ⟨by rfl, by intro w'; go_simp; with_reducible rfl⟩) (by simp only [Act.put, List.setIfInBounds_toArray, List.set_cons_zero, List.set_cons_succ, i64_w, i32_w]; rfl) ?_
        refine pz (v := undef) 14 93 HT_ rfl rfl (by kernel_rfl) (fun _ _ _ h => h) (Or.inr ⟨by rfl, rfl⟩) (by simp only [Act.put, List.setIfInBounds_toArray, List.set_cons_zero, List.set_cons_succ, i64_w, i32_w]; rfl) ?_
        refine pz (v := undef) 15 94 HT_ rfl rfl (by kernel_rfl) (fun _ _ _ h => h) (Or.inr ⟨by rfl, rfl⟩) (by simp only [Act.put, List.setIfInBounds_toArray, List.set_cons_zero, List.set_cons_succ, i64_w, i32_w]; rfl) ?_
        refine pz (v := undef) 16 95 HT_ rfl rfl (by kernel_rfl) (fun _ _ _ h => h) (Or.inr ⟨by rfl, rfl⟩) (by simp only [Act.put, List.setIfInBounds_toArray, List.set_cons_zero, List.set_cons_succ, i64_w, i32_w]; rfl) ?_
        refine pz (v := undef) 17 96 HT_ rfl rfl (by kernel_rfl) (fun _ _ _ h => h) (Or.inr ⟨by rfl, rfl⟩) (by simp only [Act.put, List.setIfInBounds_toArray, List.set_cons_zero, List.set_cons_succ, i64_w, i32_w]; rfl) ?_
        refine pz (v := undef) 18 97 HT_ rfl rfl (by kernel_rfl) (fun _ _ _ h => h) (Or.inr ⟨by rfl, rfl⟩) (by simp only [Act.put, List.setIfInBounds_toArray, List.set_cons_zero, List.set_cons_succ, i64_w, i32_w]; rfl) ?_
        refine pz (v := undef) 19 98 HT_ rfl rfl (by kernel_rfl) (fun _ _ _ h => h) (Or.inr ⟨by rfl, rfl⟩) (by simp only [Act.put, List.setIfInBounds_toArray, List.set_cons_zero, List.set_cons_succ, i64_w, i32_w]; rfl) ?_
        refine pz (v := undef) 20 99 HT_ rfl rfl (by kernel_rfl) (fun _ _ _ h => h) (Or.inr ⟨by rfl, rfl⟩) (by simp only [Act.put, List.setIfInBounds_toArray, List.set_cons_zero, List.set_cons_succ, i64_w, i32_w]; rfl) ?_
        refine pz (v := undef) 21 100 HT_ rfl rfl (by kernel_rfl) (fun _ _ _ h => h) (Or.inr ⟨by rfl, rfl⟩) (by simp only [Act.put, List.setIfInBounds_toArray, List.set_cons_zero, List.set_cons_succ, i64_w, i32_w]; rfl) ?_
        refine pz (v := undef) 22 101 HT_ rfl rfl (by kernel_rfl) (fun _ _ _ h => h) (Or.inr ⟨by rfl, rfl⟩) (by simp only [Act.put, List.setIfInBounds_toArray, List.set_cons_zero, List.set_cons_succ, i64_w, i32_w]; rfl) ?_
        refine pz (v := undef) 23 102 HT_ rfl rfl (by kernel_rfl) (fun _ _ _ h => h) (Or.inr ⟨by rfl, rfl⟩) (by simp only [Act.put, List.setIfInBounds_toArray, List.set_cons_zero, List.set_cons_succ, i64_w, i32_w]; rfl) ?_
        refine pz (v := undef) 24 103 HT_ rfl rfl (by kernel_rfl) (fun _ _ _ h => h) (Or.inr ⟨by rfl, rfl⟩) (by simp only [Act.put, List.setIfInBounds_toArray, List.set_cons_zero, List.set_cons_succ, i64_w, i32_w]; rfl) ?_
        refine pz (v := undef) 25 104 HT_ rfl rfl (by kernel_rfl) (fun _ _ _ h => h) (Or.inr ⟨by rfl, rfl⟩) (by simp only [Act.put, List.setIfInBounds_toArray, List.set_cons_zero, List.set_cons_succ, i64_w, i32_w]; rfl) ?_
        refine pz (v := undef) 26 105 HT_ rfl rfl (by kernel_rfl) (fun _ _ _ h => h) (Or.inr ⟨by rfl, rfl⟩) (by simp only [Act.put, List.setIfInBounds_toArray, List.set_cons_zero, List.set_cons_succ, i64_w, i32_w]; rfl) ?_
        refine pz (v := undef) 27 106 HT_ rfl rfl (by kernel_rfl) (fun _ _ _ h => h) (Or.inr ⟨by rfl, rfl⟩) (by simp only [Act.put, List.setIfInBounds_toArray, List.set_cons_zero, List.set_cons_succ, i64_w, i32_w]; rfl) ?_
        refine pz (v := undef) 28 107 HT_ rfl rfl (by kernel_rfl) (fun _ _ _ h => h) (Or.inr ⟨by rfl, rfl⟩) (by simp only [Act.put, List.setIfInBounds_toArray, List.set_cons_zero, List.set_cons_succ, i64_w, i32_w]; rfl) ?_
        refine pz (v := undef) 29 108 HT_ rfl rfl (by kernel_rfl) (fun _ _ _ h => h) (Or.inr ⟨by rfl, rfl⟩) (by simp only [Act.put, List.setIfInBounds_toArray, List.set_cons_zero, List.set_cons_succ, i64_w, i32_w]; rfl) ?_
        refine pz 30 109 HT_ rfl rfl (by kernel_rfl) (fun _ _ _ h => h) (Or.inl ⟨by rfl, by intro w'; go_simp; with_reducible rfl⟩) (by simp only [Act.put, List.setIfInBounds_toArray, List.set_cons_zero, List.set_cons_succ, i64_w, i32_w]; rfl) ?_
        refine pz 31 110 HT_ rfl rfl (by kernel_rfl) (fun _ _ _ h => h) (Or.inl ⟨by rfl, by intro w'; go_simp; with_reducible rfl⟩) (by simp only [Act.put, List.setIfInBounds_toArray, List.set_cons_zero, List.set_cons_succ, i64_w, i32_w]; rfl) ?_
        refine done_ (done_of HT_.out (by kernel_rfl)) ?_
        clear HT_ HW_ hHeld
        go_wp2_with (
          first
          | ((with_reducible refine gate_callee (f := 15) rfl ?_); refine goesL_ (some 112) rfl rfl Try.func15 (by kernel_rfl) rfl #[.pointer (some ⟨g, 0, none⟩)] rfl (by (try simp only [List.map_toArray, List.map_cons, List.map_nil]); first | done | rfl | (simp only [List.length_drop, List.length_take]; rfl)) ?_; refine (@floor_calls (ZI (.slice A8 l.length c8)) g ⟨ov, adj, pre, n, fl, ag, false⟩ _ D7.out.O).mono ?_; rintro e w13 ⟨rfl, hb⟩; refine ⟨_, rfl, ?_⟩; replace D7 := Aside0.mk (D7.out.below hb); replace B15 := Aside0.mk (blk_below B15.out hb); clear hb))
        go_loopw [16] (fun v16 wr => ∃ k : Int, v16 = .int .i64 k ∧ Aside0 (0 ≤ k ∧ k ≤ l.length) ∧ Aside0 (GW w g wr ⟨ov, adj, pre, n, fl, ag, false⟩ (.slice A8 l.length c8) l) ∧ Aside0 (wr.heap[b14]? = some (.cells #[.int .i64 0, .int .i64 0, .int .i64 0, .bool false, .slice none 0 0, .slice none 0 0] 32 (0, 0)))) (fun v16 _ => ((l.length : Int) - intOf v16).toNat)
        case atStart => exact ⟨0, rfl, ⟨by omega, by omega⟩, D7, B15⟩
        case round =>
          clear D7 B15
          obtain ⟨k, rfl, hk, D7, B15⟩ := hrel
          have k0 := hk.out.1
          have k1 := hk.out.2
          have z0 : (_ : World).cell? ⟨b14, 0, none⟩ = some (.int .i64 0) := (blk_cell B15.out 0).trans rfl; have zf0 := blk_frozen B15.out 0; have z1 : (_ : World).cell? ⟨b14, 1, none⟩ = some (.int .i64 0) := (blk_cell B15.out 1).trans rfl; have zf1 := blk_frozen B15.out 1; have z2 : (_ : World).cell? ⟨b14, 2, none⟩ = some (.int .i64 0) := (blk_cell B15.out 2).trans rfl; have zf2 := blk_frozen B15.out 2; have z3 : (_ : World).cell? ⟨b14, 3, none⟩ = some (.bool false) := (blk_cell B15.out 3).trans rfl; have zf3 := blk_frozen B15.out 3; have z4 : (_ : World).cell? ⟨b14, 4, none⟩ = some (.slice none 0 0) := (blk_cell B15.out 4).trans rfl; have zf4 := blk_frozen B15.out 4; have z5 : (_ : World).cell? ⟨b14, 5, none⟩ = some (.slice none 0 0) := (blk_cell B15.out 5).trans rfl; have zf5 := blk_frozen B15.out 5
          by_cases ck : k < (l.length : Int)
          rotate_left
          · go_wp2_with fail
            go_roundw
            case rel => exact ⟨_, i + 1, _, rfl, rfl, ⟨by omega, by omega⟩, IV1, ⟨fun a h => ⟨(VK1.out a h).1, (VK1.out a h).2.1⟩⟩, ⟨by have := HL1.out; omega⟩, D7⟩
            case measure => simp [intOf]; omega
          · go_wp2_with fail
            go_roundw
            case rel => exact ⟨_, i + 1, _, rfl, rfl, ⟨by omega, by omega⟩, IV1, ⟨fun a h => ⟨(VK1.out a h).1, (VK1.out a h).2.1⟩⟩, ⟨by have := HL1.out; omega⟩, D7⟩
            case measure => simp [intOf]; omega
      | true =>
        have HV := Aside0.mk (show Valid (⟨n, fl, ag, ov, adj, pre⟩ : L) from IV1.out.valid rfl)
        have VG := Aside0.mk (show G32 pre from IV1.out.g)
        have la := Aside0.mk (show adj.length ≤ 300 from IV1.out.la)
        have lp := Aside0.mk (show pre.length ≤ 300 from IV1.out.lp)
        go_upto_region 26 with (
          first
          | ((with_reducible refine gate_callee (f := 12) rfl ?_); refine goesL_ (some 76) rfl rfl Try.func12 (by kernel_rfl) rfl #[.pointer (some ⟨g, 0, none⟩)] rfl (by (try simp only [List.map_toArray, List.map_cons, List.map_nil]); first | done | rfl | (simp only [List.length_drop, List.length_take]; rfl)) ?_; refine (@current_ft (ZI (.slice A8 l.length c8)) g ⟨ov, adj, pre, n, fl, ag, true⟩ _ DK.out.O (by have := la.out; show adj.length < _; omega) (by have := lp.out; show pre.length < _; omega) rfl).mono ?_; rintro e w5 ⟨r1, r2, rfl, hA, hP, hb⟩; refine ⟨_, rfl, ?_⟩; have FA0 := Aside0.mk hA; have FP0 := Aside0.mk hP; obtain ⟨_, P1, p1, rfl, _, _⟩ := hA; obtain ⟨_, P2, p2, rfl, _, _⟩ := hP; have D5 := Aside0.mk (DK.out.below hb); clear hb; dsimp only [LSAv])
          | ((with_reducible refine gate_dst (N := 14) rfl ?_); refine box_event ?hg (N := 14) ?hd (cs := #[.int .i64 0, .int .i64 0, .int .i64 0, .bool false, .slice none 0 0, .slice none 0 0]) (t := 32) ?hr ?_; (case hd => rfl); (case hg => rfl); (case hr => first | (go_simp; done) | (go_simp; rfl)); intro b14 hg w6 hbox hb; have B14 := Aside0.mk hbox; have G14 := Aside0.mk (Nat.le_of_eq hg.symm); have HB14 := Aside0.mk hb; have z0 : w6.cell? ⟨b14, 0, none⟩ = some (.int .i64 0) := (blk_cell B14.out 0).trans rfl; have zf0 := blk_frozen B14.out 0; have z1 : w6.cell? ⟨b14, 1, none⟩ = some (.int .i64 0) := (blk_cell B14.out 1).trans rfl; have zf1 := blk_frozen B14.out 1; have z2 : w6.cell? ⟨b14, 2, none⟩ = some (.int .i64 0) := (blk_cell B14.out 2).trans rfl; have zf2 := blk_frozen B14.out 2; have z3 : w6.cell? ⟨b14, 3, none⟩ = some (.bool false) := (blk_cell B14.out 3).trans rfl; have zf3 := blk_frozen B14.out 3; have z4 : w6.cell? ⟨b14, 4, none⟩ = some (.slice none 0 0) := (blk_cell B14.out 4).trans rfl; have zf4 := blk_frozen B14.out 4; have z5 : w6.cell? ⟨b14, 5, none⟩ = some (.slice none 0 0) := (blk_cell B14.out 5).trans rfl; have zf5 := blk_frozen B14.out 5; clear hbox hb hg))
        have B15 := Aside0.mk (blk_put (cs' := #[.int .i64 n, .int .i64 fl, .int .i64 ag, .bool ov, .slice P1 adj.length p1, .slice P2 pre.length p2]) (blk_put (cs' := #[.int .i64 n, .int .i64 fl, .int .i64 ag, .bool ov, .slice P1 adj.length p1, .slice none 0 0]) (blk_put (cs' := #[.int .i64 n, .int .i64 fl, .int .i64 ag, .bool ov, .slice none 0 0, .slice none 0 0]) (blk_put (cs' := #[.int .i64 n, .int .i64 fl, .int .i64 ag, .bool false, .slice none 0 0, .slice none 0 0]) (blk_put (cs' := #[.int .i64 n, .int .i64 fl, .int .i64 0, .bool false, .slice none 0 0, .slice none 0 0]) (blk_put (cs' := #[.int .i64 n, .int .i64 0, .int .i64 0, .bool false, .slice none 0 0, .slice none 0 0]) B14.out 0 (.int .i64 n) rfl) 1 (.int .i64 fl) rfl) 2 (.int .i64 ag) rfl) 3 (.bool ov) rfl) 4 (.slice P1 adj.length p1) rfl) 5 (.slice P2 pre.length p2) rfl)
        have HB15 := Aside0.mk (below_set (below_set (below_set (below_set (below_set (below_set HB14.out G14.out (j := 0) (v := .int .i64 n)) G14.out (j := 1) (v := .int .i64 fl)) G14.out (j := 2) (v := .int .i64 ag)) G14.out (j := 3) (v := .bool ov)) G14.out (j := 4) (v := .slice P1 adj.length p1)) G14.out (j := 5) (v := .slice P2 pre.length p2))
        clear B14 HB14 G14 z0 z1 z2 z3 z4 z5 zf0 zf1 zf2 zf3 zf4 zf5
        generalize ((((((w6.setCell ⟨b14, 0, none⟩ (.int .i64 n)).setCell ⟨b14, 1, none⟩ (.int .i64 fl)).setCell ⟨b14, 2, none⟩ (.int .i64 ag)).setCell ⟨b14, 3, none⟩ (.bool ov)).setCell ⟨b14, 4, none⟩ (.slice P1 adj.length p1)).setCell ⟨b14, 5, none⟩ (.slice P2 pre.length p2)) = w7 at B15 HB15 ⊢
        have D7 := Aside0.mk (D5.out.below HB15.out)
        have FA := Aside0.mk (ftA_keep FA0.out (KeepBut.of_below HB15.out g none))
        have FP := Aside0.mk (ftP_keep FP0.out (KeepBut.of_below HB15.out g none))
        clear D5 HB15 FA0 FP0 DK
        cases made with
        | false =>
          refine start_ (n := 32) (S := fun w' => w'.cell? ⟨b14, 0, none⟩ = some (.int .i64 n) ∧ w'.cell? ⟨b14, 1, none⟩ = some (.int .i64 fl) ∧ w'.cell? ⟨b14, 2, none⟩ = some (.int .i64 ag) ∧ w'.cell? ⟨b14, 3, none⟩ = some (.bool ov) ∧ w'.cell? ⟨b14, 4, none⟩ = some (.slice P1 adj.length p1) ∧ w'.cell? ⟨b14, 5, none⟩ = some (.slice P2 pre.length p2)) (ds := []) #[false, false, false, false, false, false, false, false, false, false, false, false, false, false, false, false, false, false, false, false, false, false, false, false, false, false, false, false, false, false, false, false] (by kernel_rfl) rfl rfl ⟨(blk_cell B15.out 0).trans rfl, (blk_cell B15.out 1).trans rfl, (blk_cell B15.out 2).trans rfl, (blk_cell B15.out 3).trans rfl, (blk_cell B15.out 4).trans rfl, (blk_cell B15.out 5).trans rfl⟩ (fun hHeld => ?_); refine with_tabW gg.tab26 gg.bits26 (fun HT_ HW_ => ?_)
          replace D7 := Aside0.mk (D7.out.below (below_drew (Below.refl _ _)))
          replace FA := Aside0.mk (ftA_keep FA.out (KeepBut.of_below (below_drew (Below.refl _ _)) g none))
          replace FP := Aside0.mk (ftP_keep FP.out (KeepBut.of_below (below_drew (Below.refl _ _)) g none))
          replace B15 := Aside0.mk (blk_below B15.out (below_drew (Below.refl _ _)))
          generalize w7.drew = w8 at D7 B15 FA FP hHeld ⊢
          refine pz 0 79 HT_ rfl rfl (by kernel_rfl) (fun _ _ _ h => h) (Or.inl ⟨by rfl, by intro w'; go_simp; with_reducible rfl⟩) (by simp only [Act.put, List.setIfInBounds_toArray, List.set_cons_zero, List.set_cons_succ, i64_w, i32_w]; rfl) ?_
          refine pz 2 81 HT_ rfl rfl (by kernel_rfl) (fun _ _ _ h => h) (Or.inl ⟨by rfl, by intro w'; go_simp; with_reducible rfl⟩) (by simp only [Act.put, List.setIfInBounds_toArray, List.set_cons_zero, List.set_cons_succ, i64_w, i32_w]; rfl) ?_
          refine one_ (i := 1) (N := some 80) #[true, true, true, false, false, false, false, false, false, false, false, false, false, false, false, false, false, false, false, false, false, false, false, false, false, false, false, false, false, false, false, false] rfl rfl (one_of HT_.out (by kernel_rfl)) (by decide) (fun K hK => ?_)
          refine goes_ Try.func15 (by kernel_rfl) rfl #[.pointer (some ⟨g, 0, none⟩)] (by rfl) rfl rfl (by (try simp only [List.map_toArray, List.map_cons, List.map_nil]); first | done | rfl | (simp only [List.length_drop, List.length_take]; rfl)) ?_
          refine (@floor_calls (ZI (.slice A8 l.length c8)) g ⟨ov, adj, pre, n, fl, ag, true⟩ _ D7.out.O).mono ?_
          rintro e w9 ⟨rfl, hb⟩
          refine ⟨_, rfl, ?_⟩
          replace D7 := Aside0.mk (D7.out.below hb)
          replace FA := Aside0.mk (ftA_keep FA.out (KeepBut.of_below hb g none))
          replace FP := Aside0.mk (ftP_keep FP.out (KeepBut.of_below hb g none))
          replace B15 := Aside0.mk (blk_below B15.out hb)
          clear hb
          refine hK.out _ _ ⟨(blk_cell B15.out 0).trans rfl, (blk_cell B15.out 1).trans rfl, (blk_cell B15.out 2).trans rfl, (blk_cell B15.out 3).trans rfl, (blk_cell B15.out 4).trans rfl, (blk_cell B15.out 5).trans rfl⟩ (fun hHeld => ?_)
          clear hK K
          refine norm_ (a' := ?_) ?_ ?_
          rotate_left
          · show Act.put _ (some 80) _ = _
            simp only [Act.put, List.setIfInBounds_toArray, List.set_cons_zero, List.set_cons_succ, i64_w, i32_w]
            rfl
          refine pz 3 82 HT_ rfl rfl (by kernel_rfl) (fun _ _ _ h => h) (Or.inl ⟨by rfl, by intro w'; go_simp; with_reducible rfl⟩) (by simp only [Act.put, List.setIfInBounds_toArray, List.set_cons_zero, List.set_cons_succ, i64_w, i32_w]; rfl) ?_
          try rw [qf]
          refine pz 4 83 HT_ rfl rfl (by kernel_rfl) (fun _ _ _ h => h) (Or.inl ⟨by rfl, by intro w'; go_simp; with_reducible rfl⟩) (by simp only [Act.put, List.setIfInBounds_toArray, List.set_cons_zero, List.set_cons_succ, i64_w, i32_w]; rfl) ?_
          refine pz 5 84 HT_ rfl rfl (by kernel_rfl) (fun _ _ _ h => h) (Or.inl ⟨by rfl, by intro w'; go_simp; with_reducible rfl⟩) (by simp only [Act.put, List.setIfInBounds_toArray, List.set_cons_zero, List.set_cons_succ, i64_w, i32_w]; rfl) ?_
          refine pz 6 85 HT_ rfl rfl (by kernel_rfl) (fun _ _ _ h => h) (Or.inl ⟨by rfl, by intro w'; go_simp; with_reducible rfl⟩) (by simp only [Act.put, List.setIfInBounds_toArray, List.set_cons_zero, List.set_cons_succ, i64_w, i32_w]; rfl) ?_
          refine pz (v := undef) 7 86 HT_ rfl rfl (by kernel_rfl) (fun _ _ _ h => h) (Or.inr ⟨by rfl, rfl⟩) (by simp only [Act.put, List.setIfInBounds_toArray, List.set_cons_zero, List.set_cons_succ, i64_w, i32_w]; rfl) ?_
          refine pz (v := undef) 8 87 HT_ rfl rfl (by kernel_rfl) (fun _ _ _ h => h) (Or.inr ⟨by rfl, rfl⟩) (by simp only [Act.put, List.setIfInBounds_toArray, List.set_cons_zero, List.set_cons_succ, i64_w, i32_w]; rfl) ?_
          refine pz 9 88 HT_ rfl rfl (by kernel_rfl) (fun _ _ _ h => h) (Or.inl ⟨by rfl, by intro w'; go_simp; with_reducible rfl⟩) (by simp only [Act.put, List.setIfInBounds_toArray, List.set_cons_zero, List.set_cons_succ, i64_w, i32_w]; rfl) ?_
          refine pz 10 89 HT_ rfl rfl (by kernel_rfl) (fun _ _ _ h => h) (Or.inl ⟨by rfl, by intro w'; go_simp; with_reducible rfl⟩) (by simp only [Act.put, List.setIfInBounds_toArray, List.set_cons_zero, List.set_cons_succ, i64_w, i32_w]; rfl) ?_
          refine pz 11 90 HT_ rfl rfl (by kernel_rfl) (fun _ _ _ h => h) (Or.inl ⟨by rfl, by intro w'; go_simp; with_reducible rfl⟩) (by simp only [Act.put, List.setIfInBounds_toArray, List.set_cons_zero, List.set_cons_succ, i64_w, i32_w]; rfl) ?_
          refine pz 12 91 HT_ rfl rfl (by kernel_rfl) (fun _ _ _ h => h) (Or.inl ⟨by rfl, by intro w'; go_simp; with_reducible rfl⟩) (by simp only [Act.put, List.setIfInBounds_toArray, List.set_cons_zero, List.set_cons_succ, i64_w, i32_w]; rfl) ?_
          refine pz 13 92 HT_ rfl rfl (by kernel_rfl) (fun _ _ _ h => h) (Or.inl ⟨by rfl, by intro w'; go_simp; with_reducible rfl⟩) (by simp only [Act.put, List.setIfInBounds_toArray, List.set_cons_zero, List.set_cons_succ, i64_w, i32_w]; rfl) ?_
          refine tz 14 93 HT_ HW_ rfl rfl (by kernel_rfl) (fun _ _ _ h => h) (Or.inl ⟨by rfl, by rintro w' ⟨s0, s1, s2, s3, s4, s5⟩; go_simp; with_reducible rfl⟩) hHeld (by simp only [Act.put, List.setIfInBounds_toArray, List.set_cons_zero, List.set_cons_succ, i64_w, i32_w]; rfl) ?_
          refine one_ (i := 15) (N := some 94) #[true, true, true, true, true, true, true, true, true, true, true, true, true, true, true, true, false, false, false, false, false, false, false, false, false, false, false, false, false, false, false, false] rfl rfl (one_of HT_.out (by kernel_rfl)) (by decide) (fun K hK => ?_)
          refine goes_ Try.func20 (by kernel_rfl) rfl #[.agg #[.int .i64 n, .int .i64 fl, .int .i64 ag, .bool ov, .slice P1 adj.length p1, .slice P2 pre.length p2]] (by rfl) rfl rfl (by (try simp only [List.map_toArray, List.map_cons, List.map_nil]); first | done | rfl | (simp only [List.length_drop, List.length_take]; rfl)) ?_
          refine (valid_c n fl ag ov VG.out (rdl_of FA.out FP.out)).mono ?_
          rintro e w10 ⟨rfl, hb⟩
          rw [decide_eq_true HV.out]
          refine ⟨_, rfl, ?_⟩
          replace D7 := Aside0.mk (D7.out.below hb)
          replace FA := Aside0.mk (ftA_keep FA.out (KeepBut.of_below hb g none))
          replace FP := Aside0.mk (ftP_keep FP.out (KeepBut.of_below hb g none))
          replace B15 := Aside0.mk (blk_below B15.out hb)
          clear hb
          refine hK.out _ _ ⟨(blk_cell B15.out 0).trans rfl, (blk_cell B15.out 1).trans rfl, (blk_cell B15.out 2).trans rfl, (blk_cell B15.out 3).trans rfl, (blk_cell B15.out 4).trans rfl, (blk_cell B15.out 5).trans rfl⟩ (fun hHeld => ?_)
          clear hK K
          refine norm_ (a' := ?_) ?_ ?_
          rotate_left
          · show Act.put _ (some 94) _ = _
            simp only [Act.put, List.setIfInBounds_toArray, List.set_cons_zero, List.set_cons_succ, i64_w, i32_w]
            rfl
          refine pz 16 95 HT_ rfl rfl (by kernel_rfl) (fun _ _ _ h => h) (Or.inl ⟨by rfl, by intro w'; go_simp; with_reducible rfl⟩) (by simp only [Act.put, List.setIfInBounds_toArray, List.set_cons_zero, List.set_cons_succ, i64_w, i32_w]; rfl) ?_
          refine pz 17 96 HT_ rfl rfl (by kernel_rfl) (fun _ _ _ h => h) (Or.inl ⟨by rfl, by intro w'; go_simp; with_reducible rfl⟩) (by simp only [Act.put, List.setIfInBounds_toArray, List.set_cons_zero, List.set_cons_succ, i64_w, i32_w]; rfl) ?_
          refine pz 18 97 HT_ rfl rfl (by kernel_rfl) (fun _ _ _ h => h) (Or.inl ⟨by rfl, by intro w'; go_simp; with_reducible rfl⟩) (by simp only [Act.put, List.setIfInBounds_toArray, List.set_cons_zero, List.set_cons_succ, i64_w, i32_w]; rfl) ?_
          refine pz 20 99 HT_ rfl rfl (by kernel_rfl) (fun _ _ _ h => h) (Or.inl ⟨by rfl, by intro w'; go_simp; with_reducible rfl⟩) (by simp only [Act.put, List.setIfInBounds_toArray, List.set_cons_zero, List.set_cons_succ, i64_w, i32_w]; rfl) ?_
          refine tz 19 98 HT_ HW_ rfl rfl (by kernel_rfl) (fun _ _ _ h => h) (Or.inl ⟨by rfl, by rintro w' ⟨s0, s1, s2, s3, s4, s5⟩; go_simp; with_reducible rfl⟩) hHeld (by simp only [Act.put, List.setIfInBounds_toArray, List.set_cons_zero, List.set_cons_succ, i64_w, i32_w]; rfl) ?_
          refine pz 21 100 HT_ rfl rfl (by kernel_rfl) (fun _ _ _ h => h) (Or.inl ⟨by rfl, by intro w'; go_simp; with_reducible rfl⟩) (by simp only [Act.put, List.setIfInBounds_toArray, List.set_cons_zero, List.set_cons_succ, i64_w, i32_w]; rfl) ?_
          refine pz 22 101 HT_ rfl rfl (by kernel_rfl) (fun _ _ _ h => h) (Or.inl ⟨by rfl, by intro w'; go_simp; with_reducible rfl⟩) (by simp only [Act.put, List.setIfInBounds_toArray, List.set_cons_zero, List.set_cons_succ, i64_w, i32_w]; rfl) ?_
          refine pz 23 102 HT_ rfl rfl (by kernel_rfl) (fun _ _ _ h => h) (Or.inl ⟨by rfl, by intro w'; go_simp; with_reducible rfl⟩) (by simp only [Act.put, List.setIfInBounds_toArray, List.set_cons_zero, List.set_cons_succ, i64_w, i32_w]; rfl) ?_
          refine pz 24 103 HT_ rfl rfl (by kernel_rfl) (fun _ _ _ h => h) (Or.inl ⟨by rfl, by intro w'; go_simp; with_reducible rfl⟩) (by simp only [Act.put, List.setIfInBounds_toArray, List.set_cons_zero, List.set_cons_succ, i64_w, i32_w]; rfl) ?_
          refine pz 26 105 HT_ rfl rfl (by kernel_rfl) (fun _ _ _ h => h) (Or.inl ⟨by rfl, by intro w'; go_simp; with_reducible rfl⟩) (by simp only [Act.put, List.setIfInBounds_toArray, List.set_cons_zero, List.set_cons_succ, i64_w, i32_w]; rfl) ?_
          refine tz 25 104 HT_ HW_ rfl rfl (by kernel_rfl) (fun _ _ _ h => h) (Or.inl ⟨by rfl, by rintro w' ⟨s0, s1, s2, s3, s4, s5⟩; go_simp; with_reducible rfl⟩) hHeld (by simp only [Act.put, List.setIfInBounds_toArray, List.set_cons_zero, List.set_cons_succ, i64_w, i32_w]; rfl) ?_
          refine one_ (i := 27) (N := some 106) #[true, true, true, true, true, true, true, true, true, true, true, true, true, true, true, true, true, true, true, true, true, true, true, true, true, true, true, true, false, false, false, false] rfl rfl (one_of HT_.out (by kernel_rfl)) (by decide) (fun K hK => ?_)
          refine goes_ Try.func15 (by kernel_rfl) rfl #[.pointer (some ⟨g, 0, none⟩)] (by rfl) rfl rfl (by (try simp only [List.map_toArray, List.map_cons, List.map_nil]); first | done | rfl | (simp only [List.length_drop, List.length_take]; rfl)) ?_
          refine (@floor_calls (ZI (.slice A8 l.length c8)) g ⟨ov, adj, pre, n, fl, ag, true⟩ _ D7.out.O).mono ?_
          rintro e w11 ⟨rfl, hb⟩
          refine ⟨_, rfl, ?_⟩
          replace D7 := Aside0.mk (D7.out.below hb)
          replace FA := Aside0.mk (ftA_keep FA.out (KeepBut.of_below hb g none))
          replace FP := Aside0.mk (ftP_keep FP.out (KeepBut.of_below hb g none))
          replace B15 := Aside0.mk (blk_below B15.out hb)
          clear hb
          refine hK.out _ _ ⟨(blk_cell B15.out 0).trans rfl, (blk_cell B15.out 1).trans rfl, (blk_cell B15.out 2).trans rfl, (blk_cell B15.out 3).trans rfl, (blk_cell B15.out 4).trans rfl, (blk_cell B15.out 5).trans rfl⟩ (fun hHeld => ?_)
          clear hK K
          refine norm_ (a' := ?_) ?_ ?_
          rotate_left
          · show Act.put _ (some 106) _ = _
            simp only [Act.put, List.setIfInBounds_toArray, List.set_cons_zero, List.set_cons_succ, i64_w, i32_w]
            rfl
          refine pz 28 107 HT_ rfl rfl (by kernel_rfl) (fun _ _ _ h => h) (Or.inl ⟨by rfl, by intro w'; go_simp; with_reducible rfl⟩) (by simp only [Act.put, List.setIfInBounds_toArray, List.set_cons_zero, List.set_cons_succ, i64_w, i32_w]; rfl) ?_
          refine pz 29 108 HT_ rfl rfl (by kernel_rfl) (fun _ _ _ h => h) (Or.inl ⟨by rfl, by intro w'; go_simp; with_reducible rfl⟩) (by simp only [Act.put, List.setIfInBounds_toArray, List.set_cons_zero, List.set_cons_succ, i64_w, i32_w]; rfl) ?_
          refine pz 30 109 HT_ rfl rfl (by kernel_rfl) (fun _ _ _ h => h) (Or.inl ⟨by rfl, by intro w'; go_simp; with_reducible rfl⟩) (by simp only [Act.put, List.setIfInBounds_toArray, List.set_cons_zero, List.set_cons_succ, i64_w, i32_w]; rfl) ?_
          refine pz 31 110 HT_ rfl rfl (by kernel_rfl) (fun _ _ _ h => h) (Or.inl ⟨by rfl, by intro w'; go_simp; with_reducible rfl⟩) (by simp only [Act.put, List.setIfInBounds_toArray, List.set_cons_zero, List.set_cons_succ, i64_w, i32_w]; rfl) ?_
          refine done_ (done_of HT_.out (by kernel_rfl)) ?_
          clear HT_ HW_ hHeld
          go_wp2_with (
            first
            | ((with_reducible refine gate_callee (f := 15) rfl ?_); refine goesL_ (some 112) rfl rfl Try.func15 (by kernel_rfl) rfl #[.pointer (some ⟨g, 0, none⟩)] rfl (by (try simp only [List.map_toArray, List.map_cons, List.map_nil]); first | done | rfl | (simp only [List.length_drop, List.length_take]; rfl)) ?_; refine (@floor_calls (ZI (.slice A8 l.length c8)) g ⟨ov, adj, pre, n, fl, ag, true⟩ _ D7.out.O).mono ?_; rintro e w13 ⟨rfl, hb⟩; refine ⟨_, rfl, ?_⟩; replace D7 := Aside0.mk (D7.out.below hb); replace FA := Aside0.mk (ftA_keep FA.out (KeepBut.of_below hb g none)); replace FP := Aside0.mk (ftP_keep FP.out (KeepBut.of_below hb g none)); replace B15 := Aside0.mk (blk_below B15.out hb); clear hb))
          go_loopw [16] (fun v16 wr => ∃ k : Int, v16 = .int .i64 k ∧ Aside0 (0 ≤ k ∧ k ≤ l.length) ∧ Aside0 (GW w g wr ⟨ov, adj, pre, n, fl, ag, true⟩ (.slice A8 l.length c8) l) ∧ Aside0 (wr.heap[b14]? = some (.cells #[.int .i64 n, .int .i64 fl, .int .i64 ag, .bool ov, .slice P1 adj.length p1, .slice P2 pre.length p2] 32 (0, 0))) ∧ Aside0 (@FtA (ZI (.slice A8 l.length c8)) wr g (.slice P1 adj.length p1) adj) ∧ Aside0 (@FtP (ZI (.slice A8 l.length c8)) wr g (.slice P2 pre.length p2) pre)) (fun v16 _ => ((l.length : Int) - intOf v16).toNat)
          case atStart => exact ⟨0, rfl, ⟨by omega, by omega⟩, D7, B15, FA, FP⟩
          case round =>
            clear D7 B15 FA FP
            obtain ⟨k, rfl, hk, D7, B15, FA, FP⟩ := hrel
            have k0 := hk.out.1
            have k1 := hk.out.2
            have z0 : (_ : World).cell? ⟨b14, 0, none⟩ = some (.int .i64 n) := (blk_cell B15.out 0).trans rfl; have zf0 := blk_frozen B15.out 0; have z1 : (_ : World).cell? ⟨b14, 1, none⟩ = some (.int .i64 fl) := (blk_cell B15.out 1).trans rfl; have zf1 := blk_frozen B15.out 1; have z2 : (_ : World).cell? ⟨b14, 2, none⟩ = some (.int .i64 ag) := (blk_cell B15.out 2).trans rfl; have zf2 := blk_frozen B15.out 2; have z3 : (_ : World).cell? ⟨b14, 3, none⟩ = some (.bool ov) := (blk_cell B15.out 3).trans rfl; have zf3 := blk_frozen B15.out 3; have z4 : (_ : World).cell? ⟨b14, 4, none⟩ = some (.slice P1 adj.length p1) := (blk_cell B15.out 4).trans rfl; have zf4 := blk_frozen B15.out 4; have z5 : (_ : World).cell? ⟨b14, 5, none⟩ = some (.slice P2 pre.length p2) := (blk_cell B15.out 5).trans rfl; have zf5 := blk_frozen B15.out 5
            by_cases ck : k < (l.length : Int)
            rotate_left
            · go_wp2_with fail
              go_roundw
              case rel => exact ⟨_, i + 1, _, rfl, rfl, ⟨by omega, by omega⟩, IV1, ⟨fun a h => ⟨(VK1.out a h).1, (VK1.out a h).2.1⟩⟩, ⟨by have := HL1.out; omega⟩, D7⟩
              case measure => simp [intOf]; omega
            · go_wp2_with fail
              go_roundw
              case rel => exact ⟨_, i + 1, _, rfl, rfl, ⟨by omega, by omega⟩, IV1, ⟨fun a h => ⟨(VK1.out a h).1, (VK1.out a h).2.1⟩⟩, ⟨by have := HL1.out; omega⟩, D7⟩
              case measure => simp [intOf]; omega
        | true =>
          refine start_ (n := 32) (S := fun w' => w'.cell? ⟨b14, 0, none⟩ = some (.int .i64 n) ∧ w'.cell? ⟨b14, 1, none⟩ = some (.int .i64 fl) ∧ w'.cell? ⟨b14, 2, none⟩ = some (.int .i64 ag) ∧ w'.cell? ⟨b14, 3, none⟩ = some (.bool ov) ∧ w'.cell? ⟨b14, 4, none⟩ = some (.slice P1 adj.length p1) ∧ w'.cell? ⟨b14, 5, none⟩ = some (.slice P2 pre.length p2)) (ds := []) #[false, false, false, false, false, false, false, false, false, false, false, false, false, false, false, false, false, false, false, false, false, false, false, false, false, false, false, false, false, false, false, false] (by kernel_rfl) rfl rfl ⟨(blk_cell B15.out 0).trans rfl, (blk_cell B15.out 1).trans rfl, (blk_cell B15.out 2).trans rfl, (blk_cell B15.out 3).trans rfl, (blk_cell B15.out 4).trans rfl, (blk_cell B15.out 5).trans rfl⟩ (fun hHeld => ?_); refine with_tabW gg.tab26 gg.bits26 (fun HT_ HW_ => ?_)
          replace D7 := Aside0.mk (D7.out.below (below_drew (Below.refl _ _)))
          replace FA := Aside0.mk (ftA_keep FA.out (KeepBut.of_below (below_drew (Below.refl _ _)) g none))
          replace FP := Aside0.mk (ftP_keep FP.out (KeepBut.of_below (below_drew (Below.refl _ _)) g none))
          replace B15 := Aside0.mk (blk_below B15.out (below_drew (Below.refl _ _)))
          generalize w7.drew = w8 at D7 B15 FA FP hHeld ⊢
          refine pz 0 79 HT_ rfl rfl (by kernel_rfl) (fun _ _ _ h => h) (Or.inl ⟨by rfl, by intro w'; go_simp; with_reducible rfl⟩) (by simp only [Act.put, List.setIfInBounds_toArray, List.set_cons_zero, List.set_cons_succ, i64_w, i32_w]; rfl) ?_
          refine pz 2 81 HT_ rfl rfl (by kernel_rfl) (fun _ _ _ h => h) (Or.inl ⟨by rfl, by intro w'; go_simp; with_reducible rfl⟩) (by simp only [Act.put, List.setIfInBounds_toArray, List.set_cons_zero, List.set_cons_succ, i64_w, i32_w]; rfl) ?_
          refine one_ (i := 1) (N := some 80) #[true, true, true, false, false, false, false, false, false, false, false, false, false, false, false, false, false, false, false, false, false, false, false, false, false, false, false, false, false, false, false, false] rfl rfl (one_of HT_.out (by kernel_rfl)) (by decide) (fun K hK => ?_)
          refine goes_ Try.func15 (by kernel_rfl) rfl #[.pointer (some ⟨g, 0, none⟩)] (by rfl) rfl rfl (by (try simp only [List.map_toArray, List.map_cons, List.map_nil]); first | done | rfl | (simp only [List.length_drop, List.length_take]; rfl)) ?_
          refine (@floor_calls (ZI (.slice A8 l.length c8)) g ⟨ov, adj, pre, n, fl, ag, true⟩ _ D7.out.O).mono ?_
          rintro e w9 ⟨rfl, hb⟩
          refine ⟨_, rfl, ?_⟩
          replace D7 := Aside0.mk (D7.out.below hb)
          replace FA := Aside0.mk (ftA_keep FA.out (KeepBut.of_below hb g none))
          replace FP := Aside0.mk (ftP_keep FP.out (KeepBut.of_below hb g none))
          replace B15 := Aside0.mk (blk_below B15.out hb)
          clear hb
          refine hK.out _ _ ⟨(blk_cell B15.out 0).trans rfl, (blk_cell B15.out 1).trans rfl, (blk_cell B15.out 2).trans rfl, (blk_cell B15.out 3).trans rfl, (blk_cell B15.out 4).trans rfl, (blk_cell B15.out 5).trans rfl⟩ (fun hHeld => ?_)
          clear hK K
          refine norm_ (a' := ?_) ?_ ?_
          rotate_left
          · show Act.put _ (some 80) _ = _
            simp only [Act.put, List.setIfInBounds_toArray, List.set_cons_zero, List.set_cons_succ, i64_w, i32_w]
            rfl
          refine pz 3 82 HT_ rfl rfl (by kernel_rfl) (fun _ _ _ h => h) (Or.inl ⟨by rfl, by intro w'; go_simp; with_reducible rfl⟩) (by simp only [Act.put, List.setIfInBounds_toArray, List.set_cons_zero, List.set_cons_succ, i64_w, i32_w]; rfl) ?_
          try rw [qf]
          refine pz 4 83 HT_ rfl rfl (by kernel_rfl) (fun _ _ _ h => h) (Or.inl ⟨by rfl, by intro w'; go_simp; with_reducible rfl⟩) (by simp only [Act.put, List.setIfInBounds_toArray, List.set_cons_zero, List.set_cons_succ, i64_w, i32_w]; rfl) ?_
          refine pz 5 84 HT_ rfl rfl (by kernel_rfl) (fun _ _ _ h => h) (Or.inl ⟨by rfl, by intro w'; go_simp; with_reducible rfl⟩) (by simp only [Act.put, List.setIfInBounds_toArray, List.set_cons_zero, List.set_cons_succ, i64_w, i32_w]; rfl) ?_
          refine pz 6 85 HT_ rfl rfl (by kernel_rfl) (fun _ _ _ h => h) (Or.inl ⟨by rfl, by intro w'; go_simp; with_reducible rfl⟩) (by simp only [Act.put, List.setIfInBounds_toArray, List.set_cons_zero, List.set_cons_succ, i64_w, i32_w]; rfl) ?_
          refine pz 7 86 HT_ rfl rfl (by kernel_rfl) (fun _ _ _ h => h) (Or.inl ⟨by rfl, by intro w'; go_simp; with_reducible rfl⟩) (by simp only [Act.put, List.setIfInBounds_toArray, List.set_cons_zero, List.set_cons_succ, i64_w, i32_w]; rfl) ?_
          refine pz 8 87 HT_ rfl rfl (by kernel_rfl) (fun _ _ _ h => h) (Or.inl ⟨by rfl, by intro w'; go_simp; with_reducible rfl⟩) (by simp only [Act.put, List.setIfInBounds_toArray, List.set_cons_zero, List.set_cons_succ, i64_w, i32_w]; rfl) ?_
          refine pz 9 88 HT_ rfl rfl (by kernel_rfl) (fun _ _ _ h => h) (Or.inl ⟨by rfl, by intro w'; go_simp; with_reducible rfl⟩) (by simp only [Act.put, List.setIfInBounds_toArray, List.set_cons_zero, List.set_cons_succ, i64_w, i32_w]; rfl) ?_
          refine pz 10 89 HT_ rfl rfl (by kernel_rfl) (fun _ _ _ h => h) (Or.inl ⟨by rfl, by intro w'; go_simp; with_reducible rfl⟩) (by simp only [Act.put, List.setIfInBounds_toArray, List.set_cons_zero, List.set_cons_succ, i64_w, i32_w]; rfl) ?_
          refine pz 11 90 HT_ rfl rfl (by kernel_rfl) (fun _ _ _ h => h) (Or.inl ⟨by rfl, by intro w'; go_simp; with_reducible rfl⟩) (by simp only [Act.put, List.setIfInBounds_toArray, List.set_cons_zero, List.set_cons_succ, i64_w, i32_w]; rfl) ?_
          refine pz 12 91 HT_ rfl rfl (by kernel_rfl) (fun _ _ _ h => h) (Or.inl ⟨by rfl, by intro w'; go_simp; with_reducible rfl⟩) (by simp only [Act.put, List.setIfInBounds_toArray, List.set_cons_zero, List.set_cons_succ, i64_w, i32_w]; rfl) ?_
          refine pz 13 92 HT_ rfl rfl (by kernel_rfl) (fun _ _ _ h => h) (Or.inl ⟨by rfl, by intro w'; go_simp; with_reducible rfl⟩) (by simp only [Act.put, List.setIfInBounds_toArray, List.set_cons_zero, List.set_cons_succ, i64_w, i32_w]; rfl) ?_
          refine tz 14 93 HT_ HW_ rfl rfl (by kernel_rfl) (fun _ _ _ h => h) (Or.inl ⟨by rfl, by rintro w' ⟨s0, s1, s2, s3, s4, s5⟩; go_simp; with_reducible rfl⟩) hHeld (by simp only [Act.put, List.setIfInBounds_toArray, List.set_cons_zero, List.set_cons_succ, i64_w, i32_w]; rfl) ?_
          refine one_ (i := 15) (N := some 94) #[true, true, true, true, true, true, true, true, true, true, true, true, true, true, true, true, false, false, false, false, false, false, false, false, false, false, false, false, false, false, false, false] rfl rfl (one_of HT_.out (by kernel_rfl)) (by decide) (fun K hK => ?_)
          refine goes_ Try.func20 (by kernel_rfl) rfl #[.agg #[.int .i64 n, .int .i64 fl, .int .i64 ag, .bool ov, .slice P1 adj.length p1, .slice P2 pre.length p2]] (by rfl) rfl rfl (by (try simp only [List.map_toArray, List.map_cons, List.map_nil]); first | done | rfl | (simp only [List.length_drop, List.length_take]; rfl)) ?_
          refine (valid_c n fl ag ov VG.out (rdl_of FA.out FP.out)).mono ?_
          rintro e w10 ⟨rfl, hb⟩
          rw [decide_eq_true HV.out]
          refine ⟨_, rfl, ?_⟩
          replace D7 := Aside0.mk (D7.out.below hb)
          replace FA := Aside0.mk (ftA_keep FA.out (KeepBut.of_below hb g none))
          replace FP := Aside0.mk (ftP_keep FP.out (KeepBut.of_below hb g none))
          replace B15 := Aside0.mk (blk_below B15.out hb)
          clear hb
          refine hK.out _ _ ⟨(blk_cell B15.out 0).trans rfl, (blk_cell B15.out 1).trans rfl, (blk_cell B15.out 2).trans rfl, (blk_cell B15.out 3).trans rfl, (blk_cell B15.out 4).trans rfl, (blk_cell B15.out 5).trans rfl⟩ (fun hHeld => ?_)
          clear hK K
          refine norm_ (a' := ?_) ?_ ?_
          rotate_left
          · show Act.put _ (some 94) _ = _
            simp only [Act.put, List.setIfInBounds_toArray, List.set_cons_zero, List.set_cons_succ, i64_w, i32_w]
            rfl
          refine pz 16 95 HT_ rfl rfl (by kernel_rfl) (fun _ _ _ h => h) (Or.inl ⟨by rfl, by intro w'; go_simp; with_reducible rfl⟩) (by simp only [Act.put, List.setIfInBounds_toArray, List.set_cons_zero, List.set_cons_succ, i64_w, i32_w]; rfl) ?_
          refine pz 17 96 HT_ rfl rfl (by kernel_rfl) (fun _ _ _ h => h) (Or.inl ⟨by rfl, by intro w'; go_simp; with_reducible rfl⟩) (by simp only [Act.put, List.setIfInBounds_toArray, List.set_cons_zero, List.set_cons_succ, i64_w, i32_w]; rfl) ?_
          refine pz 18 97 HT_ rfl rfl (by kernel_rfl) (fun _ _ _ h => h) (Or.inl ⟨by rfl, by intro w'; go_simp; with_reducible rfl⟩) (by simp only [Act.put, List.setIfInBounds_toArray, List.set_cons_zero, List.set_cons_succ, i64_w, i32_w]; rfl) ?_
          refine pz 20 99 HT_ rfl rfl (by kernel_rfl) (fun _ _ _ h => h) (Or.inl ⟨by rfl, by intro w'; go_simp; with_reducible rfl⟩) (by simp only [Act.put, List.setIfInBounds_toArray, List.set_cons_zero, List.set_cons_succ, i64_w, i32_w]; rfl) ?_
          refine tz 19 98 HT_ HW_ rfl rfl (by kernel_rfl) (fun _ _ _ h => h) (Or.inl ⟨by rfl, by rintro w' ⟨s0, s1, s2, s3, s4, s5⟩; go_simp; with_reducible rfl⟩) hHeld (by simp only [Act.put, List.setIfInBounds_toArray, List.set_cons_zero, List.set_cons_succ, i64_w, i32_w]; rfl) ?_
          refine pz 21 100 HT_ rfl rfl (by kernel_rfl) (fun _ _ _ h => h) (Or.inl ⟨by rfl, by intro w'; go_simp; with_reducible rfl⟩) (by simp only [Act.put, List.setIfInBounds_toArray, List.set_cons_zero, List.set_cons_succ, i64_w, i32_w]; rfl) ?_
          refine pz 22 101 HT_ rfl rfl (by kernel_rfl) (fun _ _ _ h => h) (Or.inl ⟨by rfl, by intro w'; go_simp; with_reducible rfl⟩) (by simp only [Act.put, List.setIfInBounds_toArray, List.set_cons_zero, List.set_cons_succ, i64_w, i32_w]; rfl) ?_
          refine pz 23 102 HT_ rfl rfl (by kernel_rfl) (fun _ _ _ h => h) (Or.inl ⟨by rfl, by intro w'; go_simp; with_reducible rfl⟩) (by simp only [Act.put, List.setIfInBounds_toArray, List.set_cons_zero, List.set_cons_succ, i64_w, i32_w]; rfl) ?_
          refine pz 24 103 HT_ rfl rfl (by kernel_rfl) (fun _ _ _ h => h) (Or.inl ⟨by rfl, by intro w'; go_simp; with_reducible rfl⟩) (by simp only [Act.put, List.setIfInBounds_toArray, List.set_cons_zero, List.set_cons_succ, i64_w, i32_w]; rfl) ?_
          refine pz 26 105 HT_ rfl rfl (by kernel_rfl) (fun _ _ _ h => h) (Or.inl ⟨by rfl, by intro w'; go_simp; with_reducible rfl⟩) (by simp only [Act.put, List.setIfInBounds_toArray, List.set_cons_zero, List.set_cons_succ, i64_w, i32_w]; rfl) ?_
          refine tz 25 104 HT_ HW_ rfl rfl (by kernel_rfl) (fun _ _ _ h => h) (Or.inl ⟨by rfl, by rintro w' ⟨s0, s1, s2, s3, s4, s5⟩; go_simp; with_reducible rfl⟩) hHeld (by simp only [Act.put, List.setIfInBounds_toArray, List.set_cons_zero, List.set_cons_succ, i64_w, i32_w]; rfl) ?_
          refine one_ (i := 27) (N := some 106) #[true, true, true, true, true, true, true, true, true, true, true, true, true, true, true, true, true, true, true, true, true, true, true, true, true, true, true, true, false, false, false, false] rfl rfl (one_of HT_.out (by kernel_rfl)) (by decide) (fun K hK => ?_)
          refine goes_ Try.func15 (by kernel_rfl) rfl #[.pointer (some ⟨g, 0, none⟩)] (by rfl) rfl rfl (by (try simp only [List.map_toArray, List.map_cons, List.map_nil]); first | done | rfl | (simp only [List.length_drop, List.length_take]; rfl)) ?_
          refine (@floor_calls (ZI (.slice A8 l.length c8)) g ⟨ov, adj, pre, n, fl, ag, true⟩ _ D7.out.O).mono ?_
          rintro e w11 ⟨rfl, hb⟩
          refine ⟨_, rfl, ?_⟩
          replace D7 := Aside0.mk (D7.out.below hb)
          replace FA := Aside0.mk (ftA_keep FA.out (KeepBut.of_below hb g none))
          replace FP := Aside0.mk (ftP_keep FP.out (KeepBut.of_below hb g none))
          replace B15 := Aside0.mk (blk_below B15.out hb)
          clear hb
          refine hK.out _ _ ⟨(blk_cell B15.out 0).trans rfl, (blk_cell B15.out 1).trans rfl, (blk_cell B15.out 2).trans rfl, (blk_cell B15.out 3).trans rfl, (blk_cell B15.out 4).trans rfl, (blk_cell B15.out 5).trans rfl⟩ (fun hHeld => ?_)
          clear hK K
          refine norm_ (a' := ?_) ?_ ?_
          rotate_left
          · show Act.put _ (some 106) _ = _
            simp only [Act.put, List.setIfInBounds_toArray, List.set_cons_zero, List.set_cons_succ, i64_w, i32_w]
            rfl
          refine pz 28 107 HT_ rfl rfl (by kernel_rfl) (fun _ _ _ h => h) (Or.inl ⟨by rfl, by intro w'; go_simp; with_reducible rfl⟩) (by simp only [Act.put, List.setIfInBounds_toArray, List.set_cons_zero, List.set_cons_succ, i64_w, i32_w]; rfl) ?_
          refine pz 29 108 HT_ rfl rfl (by kernel_rfl) (fun _ _ _ h => h) (Or.inl ⟨by rfl, by intro w'; go_simp; with_reducible rfl⟩) (by simp only [Act.put, List.setIfInBounds_toArray, List.set_cons_zero, List.set_cons_succ, i64_w, i32_w]; rfl) ?_
          refine pz 30 109 HT_ rfl rfl (by kernel_rfl) (fun _ _ _ h => h) (Or.inl ⟨by rfl, by intro w'; go_simp; with_reducible rfl⟩) (by simp only [Act.put, List.setIfInBounds_toArray, List.set_cons_zero, List.set_cons_succ, i64_w, i32_w]; rfl) ?_
          refine pz 31 110 HT_ rfl rfl (by kernel_rfl) (fun _ _ _ h => h) (Or.inl ⟨by rfl, by intro w'; go_simp; with_reducible rfl⟩) (by simp only [Act.put, List.setIfInBounds_toArray, List.set_cons_zero, List.set_cons_succ, i64_w, i32_w]; rfl) ?_
          refine done_ (done_of HT_.out (by kernel_rfl)) ?_
          clear HT_ HW_ hHeld
          go_wp2_with (
            first
            | ((with_reducible refine gate_callee (f := 15) rfl ?_); refine goesL_ (some 112) rfl rfl Try.func15 (by kernel_rfl) rfl #[.pointer (some ⟨g, 0, none⟩)] rfl (by (try simp only [List.map_toArray, List.map_cons, List.map_nil]); first | done | rfl | (simp only [List.length_drop, List.length_take]; rfl)) ?_; refine (@floor_calls (ZI (.slice A8 l.length c8)) g ⟨ov, adj, pre, n, fl, ag, true⟩ _ D7.out.O).mono ?_; rintro e w13 ⟨rfl, hb⟩; refine ⟨_, rfl, ?_⟩; replace D7 := Aside0.mk (D7.out.below hb); replace FA := Aside0.mk (ftA_keep FA.out (KeepBut.of_below hb g none)); replace FP := Aside0.mk (ftP_keep FP.out (KeepBut.of_below hb g none)); replace B15 := Aside0.mk (blk_below B15.out hb); clear hb))
          go_loopw [16] (fun v16 wr => ∃ k : Int, v16 = .int .i64 k ∧ Aside0 (0 ≤ k ∧ k ≤ l.length) ∧ Aside0 (GW w g wr ⟨ov, adj, pre, n, fl, ag, true⟩ (.slice A8 l.length c8) l) ∧ Aside0 (wr.heap[b14]? = some (.cells #[.int .i64 n, .int .i64 fl, .int .i64 ag, .bool ov, .slice P1 adj.length p1, .slice P2 pre.length p2] 32 (0, 0))) ∧ Aside0 (@FtA (ZI (.slice A8 l.length c8)) wr g (.slice P1 adj.length p1) adj) ∧ Aside0 (@FtP (ZI (.slice A8 l.length c8)) wr g (.slice P2 pre.length p2) pre)) (fun v16 _ => ((l.length : Int) - intOf v16).toNat)
          case atStart => exact ⟨0, rfl, ⟨by omega, by omega⟩, D7, B15, FA, FP⟩
          case round =>
            clear D7 B15 FA FP
            obtain ⟨k, rfl, hk, D7, B15, FA, FP⟩ := hrel
            have k0 := hk.out.1
            have k1 := hk.out.2
            have z0 : (_ : World).cell? ⟨b14, 0, none⟩ = some (.int .i64 n) := (blk_cell B15.out 0).trans rfl; have zf0 := blk_frozen B15.out 0; have z1 : (_ : World).cell? ⟨b14, 1, none⟩ = some (.int .i64 fl) := (blk_cell B15.out 1).trans rfl; have zf1 := blk_frozen B15.out 1; have z2 : (_ : World).cell? ⟨b14, 2, none⟩ = some (.int .i64 ag) := (blk_cell B15.out 2).trans rfl; have zf2 := blk_frozen B15.out 2; have z3 : (_ : World).cell? ⟨b14, 3, none⟩ = some (.bool ov) := (blk_cell B15.out 3).trans rfl; have zf3 := blk_frozen B15.out 3; have z4 : (_ : World).cell? ⟨b14, 4, none⟩ = some (.slice P1 adj.length p1) := (blk_cell B15.out 4).trans rfl; have zf4 := blk_frozen B15.out 4; have z5 : (_ : World).cell? ⟨b14, 5, none⟩ = some (.slice P2 pre.length p2) := (blk_cell B15.out 5).trans rfl; have zf5 := blk_frozen B15.out 5
            by_cases ck : k < (l.length : Int)
            rotate_left
            · go_wp2_with (
                first
                | ((with_reducible refine gate_builtin (b := .append) (xs := #[.tmp 130, .tmp 132]) rfl ?_); at_builtin; refine OwnRow.append (R := KE g (.slice A8 l.length c8) _) (w0 := w) w.heap.size rfl (.tmp 130) (.tmp 132) 45 32 (.agg #[.int .i64 0, .int .i64 0, .int .i64 0, .bool false, .slice none 0 0, .slice none 0 0]) 6 80 rfl (by kernel_rfl) (by kernel_rfl) rfl (by decide) (by decide) (.slice A8 l.length c8) l (⟨n, fl, ag, ov, adj, pre⟩ : L) [.int .i64 n, .int .i64 fl, .int .i64 ag, .bool ov, .slice P1 adj.length p1, .slice P2 pre.length p2] rfl rfl (⟨_, _, rfl, FA.out, FP.out⟩) rfl (by intro u hu; simp only [List.mem_cons, List.not_mem_nil, or_false] at hu; rcases hu with rfl | rfl | rfl | rfl | rfl | rfl <;> rfl) D7.out.K D7.out.HB D7.out.HB.size (by have := HL1.out; have := hl15; omega) ?_; intro v9 w9 hown hb hg hat; have D9 := Aside0.mk (D7.out.app hown hb hg hat); clear hown hb hg hat))
              go_roundw
              case rel =>
                refine ⟨_, i + 1, _, rfl, rfl, ⟨by omega, by omega⟩, IV1, ⟨fun a h => ?_⟩, ⟨?_⟩, D9⟩
                · rcases List.mem_append.1 h with h | h
                  · exact ⟨(VK1.out a h).1, (VK1.out a h).2.1⟩
                  · obtain rfl := List.mem_singleton.1 h
                    exact ⟨HV.out, Int.le_refl _⟩
                · have := HL1.out
                  simp only [List.length_append, List.length_singleton]
                  omega
              case measure => simp [intOf]; omega
            obtain ⟨ad2, c2, E1, e1, E2, e2, a, ham, hv, hcl, RE, y0, y1, y2, y3, y4, y5⟩ := D7.out.at_ k k0 ck
            obtain ⟨hA, hc⟩ : A8 = some ad2 ∧ c8 = c2 := by
              injection hv with h1 _ h3
              exact ⟨h1, h3⟩
            subst hA hc
            have RE' := Aside0.mk RE
            clear RE hv hcl
            have VE := Aside0.mk (VK1.out a ham)
            clear ham
            have hnw : newer (⟨n, fl, ag, ov, adj, pre⟩ : L) a = 1 := newer_lt HV.out VE.out.1 (VE.out.2.2 (by simp))
            have HN := Aside0.mk hnw
            clear hnw
            go_upto_region 32 with (fail)
            refine start_ (n := 7) (S := fun w' => (w'.cell? ⟨b14, 0, none⟩ = some (.int .i64 n) ∧ w'.cell? ⟨b14, 1, none⟩ = some (.int .i64 fl) ∧ w'.cell? ⟨b14, 2, none⟩ = some (.int .i64 ag) ∧ w'.cell? ⟨b14, 3, none⟩ = some (.bool ov) ∧ w'.cell? ⟨b14, 4, none⟩ = some (.slice P1 adj.length p1) ∧ w'.cell? ⟨b14, 5, none⟩ = some (.slice P2 pre.length p2)) ∧ w'.cell? (ad2.add (k.toNat * 6)) = some (.int .i64 a.o) ∧ w'.cell? ⟨(ad2.add (k.toNat * 6)).block, (ad2.add (k.toNat * 6)).off + 1, none⟩ = some (.int .i64 a.s) ∧ w'.cell? ⟨(ad2.add (k.toNat * 6)).block, (ad2.add (k.toNat * 6)).off + 2, none⟩ = some (.int .i64 a.age) ∧ w'.cell? ⟨(ad2.add (k.toNat * 6)).block, (ad2.add (k.toNat * 6)).off + 3, none⟩ = some (.bool a.ov) ∧ w'.cell? ⟨(ad2.add (k.toNat * 6)).block, (ad2.add (k.toNat * 6)).off + 4, none⟩ = some (.slice E1 a.ad.length e1) ∧ w'.cell? ⟨(ad2.add (k.toNat * 6)).block, (ad2.add (k.toNat * 6)).off + 5, none⟩ = some (.slice E2 a.pf.length e2)) (ds := [5]) #[false, false, false, false, false, false, false] (by kernel_rfl) rfl rfl ⟨⟨(blk_cell B15.out 0).trans rfl, (blk_cell B15.out 1).trans rfl, (blk_cell B15.out 2).trans rfl, (blk_cell B15.out 3).trans rfl, (blk_cell B15.out 4).trans rfl, (blk_cell B15.out 5).trans rfl⟩, y0, y1, y2, y3, y4, y5⟩ (fun hHeld => ?_); refine with_tabW gg.tab32 gg.bits32 (fun HT_ HW_ => ?_)
            replace D7 := Aside0.mk (D7.out.below (below_drew (Below.refl _ _)))
            replace FA := Aside0.mk (ftA_keep FA.out (KeepBut.of_below (below_drew (Below.refl _ _)) g none))
            replace FP := Aside0.mk (ftP_keep FP.out (KeepBut.of_below (below_drew (Below.refl _ _)) g none))
            replace B15 := Aside0.mk (blk_below B15.out (below_drew (Below.refl _ _)))
            replace RE' := Aside0.mk (RE'.out.below (below_drew (Below.refl _ _)))
            clear z0 z1 z2 z3 z4 z5 zf0 zf1 zf2 zf3 zf4 zf5 y0 y1 y2 y3 y4 y5
            have p1_ := eq_true k0
            have p2_ := eq_true ck
            refine pz 1 123 HT_ rfl rfl (by kernel_rfl) (fun _ _ _ h => h) (Or.inl ⟨by rfl, by intro w'; go_simp; with_reducible rfl⟩) (by simp only [Act.put, List.setIfInBounds_toArray, List.set_cons_zero, List.set_cons_succ, i64_w, i32_w]; rfl) ?_
            refine pz 2 124 HT_ rfl rfl (by kernel_rfl) (fun _ _ _ h => h) (Or.inl ⟨by rfl, by intro w'; go_simp; with_reducible rfl⟩) (by simp only [Act.put, List.setIfInBounds_toArray, List.set_cons_zero, List.set_cons_succ, i64_w, i32_w]; rfl) ?_
            refine tz 0 122 HT_ HW_ rfl rfl (by kernel_rfl) (fun _ _ _ h => h) (Or.inl ⟨by rfl, by rintro w' ⟨⟨s0, s1, s2, s3, s4, s5⟩, t0, t1, t2, t3, t4, t5⟩; go_simp; with_reducible rfl⟩) hHeld (by simp only [Act.put, List.setIfInBounds_toArray, List.set_cons_zero, List.set_cons_succ, i64_w, i32_w]; rfl) ?_
            refine tz 3 125 HT_ HW_ rfl rfl (by kernel_rfl) (fun _ _ _ h => h) (Or.inl ⟨by rfl, by rintro w' ⟨⟨s0, s1, s2, s3, s4, s5⟩, t0, t1, t2, t3, t4, t5⟩; go_simp; with_reducible rfl⟩) hHeld (by simp only [Act.put, List.setIfInBounds_toArray, List.set_cons_zero, List.set_cons_succ, i64_w, i32_w]; rfl) ?_
            refine tz 4 126 HT_ HW_ rfl rfl (by kernel_rfl) (fun _ _ _ h => h) (Or.inl ⟨by rfl, by rintro w' ⟨⟨s0, s1, s2, s3, s4, s5⟩, t0, t1, t2, t3, t4, t5⟩; go_simp; with_reducible rfl⟩) hHeld (by simp only [Act.put, List.setIfInBounds_toArray, List.set_cons_zero, List.set_cons_succ, i64_w, i32_w]; rfl) ?_
            refine last_ (i := 5) (N := some 127) #[true, true, true, true, true, true, false] rfl rfl (one_of HT_.out (by kernel_rfl)) (by decide) (fun K hK => ?_)
            refine goes_ Try.func21 (by kernel_rfl) rfl #[.agg #[.int .i64 n, .int .i64 fl, .int .i64 ag, .bool ov, .slice P1 adj.length p1, .slice P2 pre.length p2], .agg #[.int .i64 a.o, .int .i64 a.s, .int .i64 a.age, .bool a.ov, .slice E1 a.ad.length e1, .slice E2 a.pf.length e2]] (by rfl) rfl rfl (by (try simp only [List.map_toArray, List.map_cons, List.map_nil]); first | done | rfl | (simp only [List.length_drop, List.length_take]; rfl)) ?_
            refine (newer_c n fl ag a.o a.s a.age ov a.ov VG.out (valid_g VE.out.1) (rdl_of FA.out FP.out) RE'.out).mono ?_
            rintro e w14 ⟨rfl, hb⟩
            rw [HN.out]
            refine ⟨_, rfl, ?_⟩
            replace D7 := Aside0.mk (D7.out.below hb)
            replace FA := Aside0.mk (ftA_keep FA.out (KeepBut.of_below hb g none))
            replace FP := Aside0.mk (ftP_keep FP.out (KeepBut.of_below hb g none))
            replace B15 := Aside0.mk (blk_below B15.out hb)
            clear hb
            refine hK.out _ _ ?_
            clear hK K
            refine norm_ (a' := ?_) ?_ ?_
            rotate_left
            · show Act.put _ (some 127) _ = _
              simp only [Act.put, List.setIfInBounds_toArray, List.set_cons_zero, List.set_cons_succ, i64_w, i32_w]
              rfl
            refine pz 6 128 HT_ rfl rfl (by kernel_rfl) (fun _ _ _ h => h) (Or.inl ⟨by rfl, by intro w'; go_simp; with_reducible rfl⟩) (by simp only [Act.put, List.setIfInBounds_toArray, List.set_cons_zero, List.set_cons_succ, i64_w, i32_w]; rfl) ?_
            refine done_ (done_of HT_.out (by kernel_rfl)) ?_
            clear HT_ HW_ hHeld
            go_wp2_with fail
            go_roundw
            case rel => exact ⟨k + 1, rfl, ⟨by omega, by omega⟩, D7, B15, FA, FP⟩
            case measure => simp [intOf]; omega
    have q0 : decide (x.f0 = 0) = false := decide_eq_false k0
    have q0' : (x.f0 == 0) = false := by simp [k0]
    clear k0
    by_cases k1 : x.f0 = 1
    rotate_left
    · have q1 : decide (x.f0 = 1) = false := decide_eq_false k1
      have q1' : (x.f0 == 1) = false := by simp [k1]
      clear k1
      obtain ⟨⟨s1, made⟩, hs⟩ : ∃ p, s.tick x.f1 = p := ⟨_, rfl⟩
      have hI := inv_tick IV.out x.f1 FX.out.2.2
      rw [hs] at hI
      dsimp only at hI
      have HS := Aside0.mk hs
      have HI := Aside0.mk hI
      clear hs hI
      go_upto_region 25 with (
        first
        | ((with_reducible refine gate_callee (f := 19) rfl ?_); refine goesL_ (some 47) rfl rfl Try.func19 (by kernel_rfl) rfl #[.pointer (some ⟨g, 0, none⟩), .int .i64 x.f1] rfl (by (try simp only [List.map_toArray, List.map_cons, List.map_nil]); first | done | rfl | (simp only [List.length_drop, List.length_take]; rfl)) ?_; refine (@tick_calls (ZI (.slice A8 l.length c8)) g s x.f1 _ D.out.O).mono ?_; rintro e wk ⟨rfl, hO, hM⟩; refine ⟨_, rfl, ?_⟩; simp only [HS.out] at hO ⊢; have DK := Aside0.mk (D.out.mut hM hO); clear hO hM; clear x0 x1 x2 x3 x4 x5 x6 x7 xf0 xf1 xf2 xf3 xf4 xf5 xf6 xf7))
      have IV1 := Aside0.mk HI.out.1
      have FL := Aside0.mk HI.out.2.1
      have MD := Aside0.mk (fun h => (HI.out.2.2 h).1)
      have VK1 := Aside0.mk (show ∀ a ∈ l, Valid a ∧ a.s ≤ s1.floor ∧ (made = true → a.s < s1.floor) from fun a h => ⟨(VK.out a h).1, Int.le_trans (VK.out a h).2 HI.out.2.1, fun m => Int.lt_of_le_of_lt (VK.out a h).2 (HI.out.2.2 m).2⟩)
      have HL1 := Aside0.mk (show (l.length : Int) ≤ 2 * i + 1 by have := HL.out; omega)
      clear HS HI
      obtain ⟨ov, adj, pre, nd, fl, ag, cu⟩ := s1
      obtain rfl : n = nd := IV1.out.node.symm
      have qf : decide (fl < s.floor) = false := decide_eq_false (by have h : s.floor ≤ fl := FL.out; omega)
      cases cu with
      | false =>
        obtain rfl : made = false := by
          cases made with
          | false => rfl
          | true => exact absurd (MD.out rfl) (by simp)
        go_upto_region 26 with (
          first
          | ((with_reducible refine gate_callee (f := 12) rfl ?_); refine goesL_ (some 76) rfl rfl Try.func12 (by kernel_rfl) rfl #[.pointer (some ⟨g, 0, none⟩)] rfl (by (try simp only [List.map_toArray, List.map_cons, List.map_nil]); first | done | rfl | (simp only [List.length_drop, List.length_take]; rfl)) ?_; refine (@current_none (ZI (.slice A8 l.length c8)) g ⟨ov, adj, pre, n, fl, ag, false⟩ _ DK.out.O rfl).mono ?_; rintro e w5 ⟨rfl, hb⟩; refine ⟨_, rfl, ?_⟩; have D5 := Aside0.mk (DK.out.below hb); clear hb)
          | ((with_reducible refine gate_dst (N := 14) rfl ?_); refine box_event ?hg (N := 14) ?hd (cs := #[.int .i64 0, .int .i64 0, .int .i64 0, .bool false, .slice none 0 0, .slice none 0 0]) (t := 32) ?hr ?_; (case hd => rfl); (case hg => rfl); (case hr => first | (go_simp; done) | (go_simp; rfl)); intro b14 hg w6 hbox hb; have B14 := Aside0.mk hbox; have G14 := Aside0.mk (Nat.le_of_eq hg.symm); have HB14 := Aside0.mk hb; have z0 : w6.cell? ⟨b14, 0, none⟩ = some (.int .i64 0) := (blk_cell B14.out 0).trans rfl; have zf0 := blk_frozen B14.out 0; have z1 : w6.cell? ⟨b14, 1, none⟩ = some (.int .i64 0) := (blk_cell B14.out 1).trans rfl; have zf1 := blk_frozen B14.out 1; have z2 : w6.cell? ⟨b14, 2, none⟩ = some (.int .i64 0) := (blk_cell B14.out 2).trans rfl; have zf2 := blk_frozen B14.out 2; have z3 : w6.cell? ⟨b14, 3, none⟩ = some (.bool false) := (blk_cell B14.out 3).trans rfl; have zf3 := blk_frozen B14.out 3; have z4 : w6.cell? ⟨b14, 4, none⟩ = some (.slice none 0 0) := (blk_cell B14.out 4).trans rfl; have zf4 := blk_frozen B14.out 4; have z5 : w6.cell? ⟨b14, 5, none⟩ = some (.slice none 0 0) := (blk_cell B14.out 5).trans rfl; have zf5 := blk_frozen B14.out 5; clear hbox hb hg))
        have B15 := Aside0.mk (blk_put (cs' := #[.int .i64 0, .int .i64 0, .int .i64 0, .bool false, .slice none 0 0, .slice none 0 0]) (blk_put (cs' := #[.int .i64 0, .int .i64 0, .int .i64 0, .bool false, .slice none 0 0, .slice none 0 0]) (blk_put (cs' := #[.int .i64 0, .int .i64 0, .int .i64 0, .bool false, .slice none 0 0, .slice none 0 0]) (blk_put (cs' := #[.int .i64 0, .int .i64 0, .int .i64 0, .bool false, .slice none 0 0, .slice none 0 0]) (blk_put (cs' := #[.int .i64 0, .int .i64 0, .int .i64 0, .bool false, .slice none 0 0, .slice none 0 0]) (blk_put (cs' := #[.int .i64 0, .int .i64 0, .int .i64 0, .bool false, .slice none 0 0, .slice none 0 0]) B14.out 0 (.int .i64 0) rfl) 1 (.int .i64 0) rfl) 2 (.int .i64 0) rfl) 3 (.bool false) rfl) 4 (.slice none 0 0) rfl) 5 (.slice none 0 0) rfl)
        have HB15 := Aside0.mk (below_set (below_set (below_set (below_set (below_set (below_set HB14.out G14.out (j := 0) (v := .int .i64 0)) G14.out (j := 1) (v := .int .i64 0)) G14.out (j := 2) (v := .int .i64 0)) G14.out (j := 3) (v := .bool false)) G14.out (j := 4) (v := .slice none 0 0)) G14.out (j := 5) (v := .slice none 0 0))
        clear B14 HB14 G14 z0 z1 z2 z3 z4 z5 zf0 zf1 zf2 zf3 zf4 zf5
        generalize ((((((w6.setCell ⟨b14, 0, none⟩ (.int .i64 0)).setCell ⟨b14, 1, none⟩ (.int .i64 0)).setCell ⟨b14, 2, none⟩ (.int .i64 0)).setCell ⟨b14, 3, none⟩ (.bool false)).setCell ⟨b14, 4, none⟩ (.slice none 0 0)).setCell ⟨b14, 5, none⟩ (.slice none 0 0)) = w7 at B15 HB15 ⊢
        have D7 := Aside0.mk (D5.out.below HB15.out)
        clear D5 HB15 DK
        refine start_ (n := 32) (S := fun w' => w'.cell? ⟨b14, 0, none⟩ = some (.int .i64 0) ∧ w'.cell? ⟨b14, 1, none⟩ = some (.int .i64 0) ∧ w'.cell? ⟨b14, 2, none⟩ = some (.int .i64 0) ∧ w'.cell? ⟨b14, 3, none⟩ = some (.bool false) ∧ w'.cell? ⟨b14, 4, none⟩ = some (.slice none 0 0) ∧ w'.cell? ⟨b14, 5, none⟩ = some (.slice none 0 0)) (ds := []) #[false, false, false, false, false, false, false, false, false, false, false, false, false, false, false, false, false, false, false, false, false, false, false, false, false, false, false, false, false, false, false, false] (by kernel_rfl) rfl rfl ⟨(blk_cell B15.out 0).trans rfl, (blk_cell B15.out 1).trans rfl, (blk_cell B15.out 2).trans rfl, (blk_cell B15.out 3).trans rfl, (blk_cell B15.out 4).trans rfl, (blk_cell B15.out 5).trans rfl⟩ (fun hHeld => ?_); refine with_tabW gg.tab26 gg.bits26 (fun HT_ HW_ => ?_)
        replace D7 := Aside0.mk (D7.out.below (below_drew (Below.refl _ _)))
        replace B15 := Aside0.mk (blk_below B15.out (below_drew (Below.refl _ _)))
        generalize w7.drew = w8 at D7 B15 hHeld ⊢
        refine pz 0 79 HT_ rfl rfl (by kernel_rfl) (fun _ _ _ h => h) (Or.inl ⟨by rfl, by intro w'; go_simp; with_reducible rfl⟩) (by simp only [Act.put, List.setIfInBounds_toArray, List.set_cons_zero, List.set_cons_succ, i64_w, i32_w]; rfl) ?_
        refine pz 2 81 HT_ rfl rfl (by kernel_rfl) (fun _ _ _ h => h) (Or.inl ⟨by rfl, by intro w'; go_simp; with_reducible rfl⟩) (by simp only [Act.put, List.setIfInBounds_toArray, List.set_cons_zero, List.set_cons_succ, i64_w, i32_w]; rfl) ?_
        refine one_ (i := 1) (N := some 80) #[true, true, true, false, false, false, false, false, false, false, false, false, false, false, false, false, false, false, false, false, false, false, false, false, false, false, false, false, false, false, false, false] rfl rfl (one_of HT_.out (by kernel_rfl)) (by decide) (fun K hK => ?_)
        refine goes_ Try.func15 (by kernel_rfl) rfl #[.pointer (some ⟨g, 0, none⟩)] (by rfl) rfl rfl (by (try simp only [List.map_toArray, List.map_cons, List.map_nil]); first | done | rfl | (simp only [List.length_drop, List.length_take]; rfl)) ?_
        refine (@floor_calls (ZI (.slice A8 l.length c8)) g ⟨ov, adj, pre, n, fl, ag, false⟩ _ D7.out.O).mono ?_
        rintro e w9 ⟨rfl, hb⟩
        refine ⟨_, rfl, ?_⟩
        replace D7 := Aside0.mk (D7.out.below hb)
        replace B15 := Aside0.mk (blk_below B15.out hb)
        clear hb
        refine hK.out _ _ ⟨(blk_cell B15.out 0).trans rfl, (blk_cell B15.out 1).trans rfl, (blk_cell B15.out 2).trans rfl, (blk_cell B15.out 3).trans rfl, (blk_cell B15.out 4).trans rfl, (blk_cell B15.out 5).trans rfl⟩ (fun hHeld => ?_)
        clear hK K
        refine norm_ (a' := ?_) ?_ ?_
        rotate_left
        · show Act.put _ (some 80) _ = _
          simp only [Act.put, List.setIfInBounds_toArray, List.set_cons_zero, List.set_cons_succ, i64_w, i32_w]
          rfl
        refine pz 3 82 HT_ rfl rfl (by kernel_rfl) (fun _ _ _ h => h) (Or.inl ⟨by rfl, by intro w'; go_simp; with_reducible rfl⟩) (by simp only [Act.put, List.setIfInBounds_toArray, List.set_cons_zero, List.set_cons_succ, i64_w, i32_w]; rfl) ?_
        try rw [qf]
        refine pz 4 83 HT_ rfl rfl (by kernel_rfl) (fun _ _ _ h => h) (Or.inl ⟨by rfl, by intro w'; go_simp; with_reducible rfl⟩) (by simp only [Act.put, List.setIfInBounds_toArray, List.set_cons_zero, List.set_cons_succ, i64_w, i32_w]; rfl) ?_
        refine pz 5 84 HT_ rfl rfl (by kernel_rfl) (fun _ _ _ h => h) (Or.inl ⟨by rfl, by intro w'; go_simp; with_reducible rfl⟩) (by simp only [Act.put, List.setIfInBounds_toArray, List.set_cons_zero, List.set_cons_succ, i64_w, i32_w]; rfl) ?_
        refine pz 6 85 HT_ rfl rfl (by kernel_rfl) (fun _ _ _ h => h) (Or.inl ⟨by rfl, by intro w'; go_simp; with_reducible rfl⟩) (by simp only [Act.put, List.setIfInBounds_toArray, List.set_cons_zero, List.set_cons_succ, i64_w, i32_w]; rfl) ?_
        refine pz (v := undef) 7 86 HT_ rfl rfl (by kernel_rfl) (fun _ _ _ h => h) (Or.inr ⟨by rfl, rfl⟩) (by simp only [Act.put, List.setIfInBounds_toArray, List.set_cons_zero, List.set_cons_succ, i64_w, i32_w]; rfl) ?_
        refine pz (v := undef) 8 87 HT_ rfl rfl (by kernel_rfl) (fun _ _ _ h => h) (Or.inr ⟨by rfl, rfl⟩) (by simp only [Act.put, List.setIfInBounds_toArray, List.set_cons_zero, List.set_cons_succ, i64_w, i32_w]; rfl) ?_
        refine pz 9 88 HT_ rfl rfl (by kernel_rfl) (fun _ _ _ h => h) (Or.inl ⟨by rfl, by intro w'; go_simp; with_reducible rfl⟩) (by simp only [Act.put, List.setIfInBounds_toArray, List.set_cons_zero, List.set_cons_succ, i64_w, i32_w]; rfl) ?_
        refine pz 10 89 HT_ rfl rfl (by kernel_rfl) (fun _ _ _ h => h) (Or.inl ⟨by rfl, by intro w'; go_simp; with_reducible rfl⟩) (by simp only [Act.put, List.setIfInBounds_toArray, List.set_cons_zero, List.set_cons_succ, i64_w, i32_w]; rfl) ?_
        refine pz 11 90 HT_ rfl rfl (by kernel_rfl) (fun _ _ _ h => h) (Or.inl ⟨by rfl, by intro w'; go_simp; with_reducible rfl⟩) (by simp only [Act.put, List.setIfInBounds_toArray, List.set_cons_zero, List.set_cons_succ, i64_w, i32_w]; rfl) ?_
        refine pz 12 91 HT_ rfl rfl (by kernel_rfl) (fun _ _ _ h => h) (Or.inl ⟨by rfl, by intro w'; go_simp; with_reducible rfl⟩) (by simp only [Act.put, List.setIfInBounds_toArray, List.set_cons_zero, List.set_cons_succ, i64_w, i32_w]; rfl) ?_
        refine pz 13 92 HT_ rfl rfl (by kernel_rfl) (fun _ _ _ h => h) (Or.inl ⟨by rfl, by intro w'; go_simp; with_reducible rfl⟩) (by simp only [Act.put, List.setIfInBounds_toArray, List.set_cons_zero, List.set_cons_succ, i64_w, i32_w]; rfl) ?_
        refine pz (v := undef) 14 93 HT_ rfl rfl (by kernel_rfl) (fun _ _ _ h => h) (Or.inr ⟨by rfl, rfl⟩) (by simp only [Act.put, List.setIfInBounds_toArray, List.set_cons_zero, List.set_cons_succ, i64_w, i32_w]; rfl) ?_
        refine pz (v := undef) 15 94 HT_ rfl rfl (by kernel_rfl) (fun _ _ _ h => h) (Or.inr ⟨by rfl, rfl⟩) (by simp only [Act.put, List.setIfInBounds_toArray, List.set_cons_zero, List.set_cons_succ, i64_w, i32_w]; rfl) ?_
        refine pz (v := undef) 16 95 HT_ rfl rfl (by kernel_rfl) (fun _ _ _ h => h) (Or.inr ⟨by rfl, rfl⟩) (by simp only [Act.put, List.setIfInBounds_toArray, List.set_cons_zero, List.set_cons_succ, i64_w, i32_w]; rfl) ?_
        refine pz (v := undef) 17 96 HT_ rfl rfl (by kernel_rfl) (fun _ _ _ h => h) (Or.inr ⟨by rfl, rfl⟩) (by simp only [Act.put, List.setIfInBounds_toArray, List.set_cons_zero, List.set_cons_succ, i64_w, i32_w]; rfl) ?_
        refine pz (v := undef) 18 97 HT_ rfl rfl (by kernel_rfl) (fun _ _ _ h => h) (Or.inr ⟨by rfl, rfl⟩) (by simp only [Act.put, List.setIfInBounds_toArray, List.set_cons_zero, List.set_cons_succ, i64_w, i32_w]; rfl) ?_
        refine pz (v := undef) 19 98 HT_ rfl rfl (by kernel_rfl) (fun _ _ _ h => h) (Or.inr ⟨by rfl, rfl⟩) (by simp only [Act.put, List.setIfInBounds_toArray, List.set_cons_zero, List.set_cons_succ, i64_w, i32_w]; rfl) ?_
        refine pz (v := undef) 20 99 HT_ rfl rfl (by kernel_rfl) (fun _ _ _ h => h) (Or.inr ⟨by rfl, rfl⟩) (by simp only [Act.put, List.setIfInBounds_toArray, List.set_cons_zero, List.set_cons_succ, i64_w, i32_w]; rfl) ?_
        refine pz (v := undef) 21 100 HT_ rfl rfl (by kernel_rfl) (fun _ _ _ h => h) (Or.inr ⟨by rfl, rfl⟩) (by simp only [Act.put, List.setIfInBounds_toArray, List.set_cons_zero, List.set_cons_succ, i64_w, i32_w]; rfl) ?_
        refine pz (v := undef) 22 101 HT_ rfl rfl (by kernel_rfl) (fun _ _ _ h => h) (Or.inr ⟨by rfl, rfl⟩) (by simp only [Act.put, List.setIfInBounds_toArray, List.set_cons_zero, List.set_cons_succ, i64_w, i32_w]; rfl) ?_
        refine pz (v := undef) 23 102 HT_ rfl rfl (by kernel_rfl) (fun _ _ _ h => h) (Or.inr ⟨by rfl, rfl⟩) (by simp only [Act.put, List.setIfInBounds_toArray, List.set_cons_zero, List.set_cons_succ, i64_w, i32_w]; rfl) ?_
        refine pz (v := undef) 24 103 HT_ rfl rfl (by kernel_rfl) (fun _ _ _ h => h) (Or.inr ⟨by rfl, rfl⟩) (by simp only [Act.put, List.setIfInBounds_toArray, List.set_cons_zero, List.set_cons_succ, i64_w, i32_w]; rfl) ?_
        refine pz (v := undef) 25 104 HT_ rfl rfl (by kernel_rfl) (fun _ _ _ h => h) (Or.inr ⟨by rfl, rfl⟩) (by simp only [Act.put, List.setIfInBounds_toArray, List.set_cons_zero, List.set_cons_succ, i64_w, i32_w]; rfl) ?_
        refine pz (v := undef) 26 105 HT_ rfl rfl (by kernel_rfl) (fun _ _ _ h => h) (Or.inr ⟨by rfl, rfl⟩) (by simp only [Act.put, List.setIfInBounds_toArray, List.set_cons_zero, List.set_cons_succ, i64_w, i32_w]; rfl) ?_
        refine pz (v := undef) 27 106 HT_ rfl rfl (by kernel_rfl) (fun _ _ _ h => h) (Or.inr ⟨by rfl, rfl⟩) (by simp only [Act.put, List.setIfInBounds_toArray, List.set_cons_zero, List.set_cons_succ, i64_w, i32_w]; rfl) ?_
        refine pz (v := undef) 28 107 HT_ rfl rfl (by kernel_rfl) (fun _ _ _ h => h) (Or.inr ⟨by rfl, rfl⟩) (by simp only [Act.put, List.setIfInBounds_toArray, List.set_cons_zero, List.set_cons_succ, i64_w, i32_w]; rfl) ?_
        refine pz (v := undef) 29 108 HT_ rfl rfl (by kernel_rfl) (fun _ _ _ h => h) (Or.inr ⟨by rfl, rfl⟩) (by simp only [Act.put, List.setIfInBounds_toArray, List.set_cons_zero, List.set_cons_succ, i64_w, i32_w]; rfl) ?_
        refine pz 30 109 HT_ rfl rfl (by kernel_rfl) (fun _ _ _ h => h) (Or.inl ⟨by rfl, by intro w'; go_simp; with_reducible rfl⟩) (by simp only [Act.put, List.setIfInBounds_toArray, List.set_cons_zero, List.set_cons_succ, i64_w, i32_w]; rfl) ?_
        refine pz 31 110 HT_ rfl rfl (by kernel_rfl) (fun _ _ _ h => h) (Or.inl ⟨by rfl, by intro w'; go_simp; with_reducible rfl⟩) (by simp only [Act.put, List.setIfInBounds_toArray, List.set_cons_zero, List.set_cons_succ, i64_w, i32_w]; rfl) ?_
        refine done_ (done_of HT_.out (by kernel_rfl)) ?_
        clear HT_ HW_ hHeld
        go_wp2_with (
          first
          | ((with_reducible refine gate_callee (f := 15) rfl ?_); refine goesL_ (some 112) rfl rfl Try.func15 (by kernel_rfl) rfl #[.pointer (some ⟨g, 0, none⟩)] rfl (by (try simp only [List.map_toArray, List.map_cons, List.map_nil]); first | done | rfl | (simp only [List.length_drop, List.length_take]; rfl)) ?_; refine (@floor_calls (ZI (.slice A8 l.length c8)) g ⟨ov, adj, pre, n, fl, ag, false⟩ _ D7.out.O).mono ?_; rintro e w13 ⟨rfl, hb⟩; refine ⟨_, rfl, ?_⟩; replace D7 := Aside0.mk (D7.out.below hb); replace B15 := Aside0.mk (blk_below B15.out hb); clear hb))
        go_loopw [16] (fun v16 wr => ∃ k : Int, v16 = .int .i64 k ∧ Aside0 (0 ≤ k ∧ k ≤ l.length) ∧ Aside0 (GW w g wr ⟨ov, adj, pre, n, fl, ag, false⟩ (.slice A8 l.length c8) l) ∧ Aside0 (wr.heap[b14]? = some (.cells #[.int .i64 0, .int .i64 0, .int .i64 0, .bool false, .slice none 0 0, .slice none 0 0] 32 (0, 0)))) (fun v16 _ => ((l.length : Int) - intOf v16).toNat)
        case atStart => exact ⟨0, rfl, ⟨by omega, by omega⟩, D7, B15⟩
        case round =>
          clear D7 B15
          obtain ⟨k, rfl, hk, D7, B15⟩ := hrel
          have k0 := hk.out.1
          have k1 := hk.out.2
          have z0 : (_ : World).cell? ⟨b14, 0, none⟩ = some (.int .i64 0) := (blk_cell B15.out 0).trans rfl; have zf0 := blk_frozen B15.out 0; have z1 : (_ : World).cell? ⟨b14, 1, none⟩ = some (.int .i64 0) := (blk_cell B15.out 1).trans rfl; have zf1 := blk_frozen B15.out 1; have z2 : (_ : World).cell? ⟨b14, 2, none⟩ = some (.int .i64 0) := (blk_cell B15.out 2).trans rfl; have zf2 := blk_frozen B15.out 2; have z3 : (_ : World).cell? ⟨b14, 3, none⟩ = some (.bool false) := (blk_cell B15.out 3).trans rfl; have zf3 := blk_frozen B15.out 3; have z4 : (_ : World).cell? ⟨b14, 4, none⟩ = some (.slice none 0 0) := (blk_cell B15.out 4).trans rfl; have zf4 := blk_frozen B15.out 4; have z5 : (_ : World).cell? ⟨b14, 5, none⟩ = some (.slice none 0 0) := (blk_cell B15.out 5).trans rfl; have zf5 := blk_frozen B15.out 5
          by_cases ck : k < (l.length : Int)
          rotate_left
          · go_wp2_with fail
            go_roundw
            case rel => exact ⟨_, i + 1, _, rfl, rfl, ⟨by omega, by omega⟩, IV1, ⟨fun a h => ⟨(VK1.out a h).1, (VK1.out a h).2.1⟩⟩, ⟨by have := HL1.out; omega⟩, D7⟩
            case measure => simp [intOf]; omega
          · go_wp2_with fail
            go_roundw
            case rel => exact ⟨_, i + 1, _, rfl, rfl, ⟨by omega, by omega⟩, IV1, ⟨fun a h => ⟨(VK1.out a h).1, (VK1.out a h).2.1⟩⟩, ⟨by have := HL1.out; omega⟩, D7⟩
            case measure => simp [intOf]; omega
      | true =>
        have HV := Aside0.mk (show Valid (⟨n, fl, ag, ov, adj, pre⟩ : L) from IV1.out.valid rfl)
        have VG := Aside0.mk (show G32 pre from IV1.out.g)
        have la := Aside0.mk (show adj.length ≤ 300 from IV1.out.la)
        have lp := Aside0.mk (show pre.length ≤ 300 from IV1.out.lp)
        go_upto_region 26 with (
          first
          | ((with_reducible refine gate_callee (f := 12) rfl ?_); refine goesL_ (some 76) rfl rfl Try.func12 (by kernel_rfl) rfl #[.pointer (some ⟨g, 0, none⟩)] rfl (by (try simp only [List.map_toArray, List.map_cons, List.map_nil]); first | done | rfl | (simp only [List.length_drop, List.length_take]; rfl)) ?_; refine (@current_ft (ZI (.slice A8 l.length c8)) g ⟨ov, adj, pre, n, fl, ag, true⟩ _ DK.out.O (by have := la.out; show adj.length < _; omega) (by have := lp.out; show pre.length < _; omega) rfl).mono ?_; rintro e w5 ⟨r1, r2, rfl, hA, hP, hb⟩; refine ⟨_, rfl, ?_⟩; have FA0 := Aside0.mk hA; have FP0 := Aside0.mk hP; obtain ⟨_, P1, p1, rfl, _, _⟩ := hA; obtain ⟨_, P2, p2, rfl, _, _⟩ := hP; have D5 := Aside0.mk (DK.out.below hb); clear hb; dsimp only [LSAv])
          | ((with_reducible refine gate_dst (N := 14) rfl ?_); refine box_event ?hg (N := 14) ?hd (cs := #[.int .i64 0, .int .i64 0, .int .i64 0, .bool false, .slice none 0 0, .slice none 0 0]) (t := 32) ?hr ?_; (case hd => rfl); (case hg => rfl); (case hr => first | (go_simp; done) | (go_simp; rfl)); intro b14 hg w6 hbox hb; have B14 := Aside0.mk hbox; have G14 := Aside0.mk (Nat.le_of_eq hg.symm); have HB14 := Aside0.mk hb; have z0 : w6.cell? ⟨b14, 0, none⟩ = some (.int .i64 0) := (blk_cell B14.out 0).trans rfl; have zf0 := blk_frozen B14.out 0; have z1 : w6.cell? ⟨b14, 1, none⟩ = some (.int .i64 0) := (blk_cell B14.out 1).trans rfl; have zf1 := blk_frozen B14.out 1; have z2 : w6.cell? ⟨b14, 2, none⟩ = some (.int .i64 0) := (blk_cell B14.out 2).trans rfl; have zf2 := blk_frozen B14.out 2; have z3 : w6.cell? ⟨b14, 3, none⟩ = some (.bool false) := (blk_cell B14.out 3).trans rfl; have zf3 := blk_frozen B14.out 3; have z4 : w6.cell? ⟨b14, 4, none⟩ = some (.slice none 0 0) := (blk_cell B14.out 4).trans rfl; have zf4 := blk_frozen B14.out 4; have z5 : w6.cell? ⟨b14, 5, none⟩ = some (.slice none 0 0) := (blk_cell B14.out 5).trans rfl; have zf5 := blk_frozen B14.out 5; clear hbox hb hg))
        have B15 := Aside0.mk (blk_put (cs' := #[.int .i64 n, .int .i64 fl, .int .i64 ag, .bool ov, .slice P1 adj.length p1, .slice P2 pre.length p2]) (blk_put (cs' := #[.int .i64 n, .int .i64 fl, .int .i64 ag, .bool ov, .slice P1 adj.length p1, .slice none 0 0]) (blk_put (cs' := #[.int .i64 n, .int .i64 fl, .int .i64 ag, .bool ov, .slice none 0 0, .slice none 0 0]) (blk_put (cs' := #[.int .i64 n, .int .i64 fl, .int .i64 ag, .bool false, .slice none 0 0, .slice none 0 0]) (blk_put (cs' := #[.int .i64 n, .int .i64 fl, .int .i64 0, .bool false, .slice none 0 0, .slice none 0 0]) (blk_put (cs' := #[.int .i64 n, .int .i64 0, .int .i64 0, .bool false, .slice none 0 0, .slice none 0 0]) B14.out 0 (.int .i64 n) rfl) 1 (.int .i64 fl) rfl) 2 (.int .i64 ag) rfl) 3 (.bool ov) rfl) 4 (.slice P1 adj.length p1) rfl) 5 (.slice P2 pre.length p2) rfl)
        have HB15 := Aside0.mk (below_set (below_set (below_set (below_set (below_set (below_set HB14.out G14.out (j := 0) (v := .int .i64 n)) G14.out (j := 1) (v := .int .i64 fl)) G14.out (j := 2) (v := .int .i64 ag)) G14.out (j := 3) (v := .bool ov)) G14.out (j := 4) (v := .slice P1 adj.length p1)) G14.out (j := 5) (v := .slice P2 pre.length p2))
        clear B14 HB14 G14 z0 z1 z2 z3 z4 z5 zf0 zf1 zf2 zf3 zf4 zf5
        generalize ((((((w6.setCell ⟨b14, 0, none⟩ (.int .i64 n)).setCell ⟨b14, 1, none⟩ (.int .i64 fl)).setCell ⟨b14, 2, none⟩ (.int .i64 ag)).setCell ⟨b14, 3, none⟩ (.bool ov)).setCell ⟨b14, 4, none⟩ (.slice P1 adj.length p1)).setCell ⟨b14, 5, none⟩ (.slice P2 pre.length p2)) = w7 at B15 HB15 ⊢
        have D7 := Aside0.mk (D5.out.below HB15.out)
        have FA := Aside0.mk (ftA_keep FA0.out (KeepBut.of_below HB15.out g none))
        have FP := Aside0.mk (ftP_keep FP0.out (KeepBut.of_below HB15.out g none))
        clear D5 HB15 FA0 FP0 DK
        cases made with
        | false =>
          refine start_ (n := 32) (S := fun w' => w'.cell? ⟨b14, 0, none⟩ = some (.int .i64 n) ∧ w'.cell? ⟨b14, 1, none⟩ = some (.int .i64 fl) ∧ w'.cell? ⟨b14, 2, none⟩ = some (.int .i64 ag) ∧ w'.cell? ⟨b14, 3, none⟩ = some (.bool ov) ∧ w'.cell? ⟨b14, 4, none⟩ = some (.slice P1 adj.length p1) ∧ w'.cell? ⟨b14, 5, none⟩ = some (.slice P2 pre.length p2)) (ds := []) #[false, false, false, false, false, false, false, false, false, false, false, false, false, false, false, false, false, false, false, false, false, false, false, false, false, false, false, false, false, false, false, false] (by kernel_rfl) rfl rfl ⟨(blk_cell B15.out 0).trans rfl, (blk_cell B15.out 1).trans rfl, (blk_cell B15.out 2).trans rfl, (blk_cell B15.out 3).trans rfl, (blk_cell B15.out 4).trans rfl, (blk_cell B15.out 5).trans rfl⟩ (fun hHeld => ?_); refine with_tabW gg.tab26 gg.bits26 (fun HT_ HW_ => ?_)
          replace D7 := Aside0.mk (D7.out.below (below_drew (Below.refl _ _)))
          replace FA := Aside0.mk (ftA_keep FA.out (KeepBut.of_below (below_drew (Below.refl _ _)) g none))
          replace FP := Aside0.mk (ftP_keep FP.out (KeepBut.of_below (below_drew (Below.refl _ _)) g none))
          replace B15 := Aside0.mk (blk_below B15.out (below_drew (Below.refl _ _)))
          generalize w7.drew = w8 at D7 B15 FA FP hHeld ⊢
          refine pz 0 79 HT_ rfl rfl (by kernel_rfl) (fun _ _ _ h => h) (Or.inl ⟨by rfl, by intro w'; go_simp; with_reducible rfl⟩) (by simp only [Act.put, List.setIfInBounds_toArray, List.set_cons_zero, List.set_cons_succ, i64_w, i32_w]; rfl) ?_
          refine pz 2 81 HT_ rfl rfl (by kernel_rfl) (fun _ _ _ h => h) (Or.inl ⟨by rfl, by intro w'; go_simp; with_reducible rfl⟩) (by simp only [Act.put, List.setIfInBounds_toArray, List.set_cons_zero, List.set_cons_succ, i64_w, i32_w]; rfl) ?_
          refine one_ (i := 1) (N := some 80) #[true, true, true, false, false, false, false, false, false, false, false, false, false, false, false, false, false, false, false, false, false, false, false, false, false, false, false, false, false, false, false, false] rfl rfl (one_of HT_.out (by kernel_rfl)) (by decide) (fun K hK => ?_)
          refine goes_ Try.func15 (by kernel_rfl) rfl #[.pointer (some ⟨g, 0, none⟩)] (by rfl) rfl rfl (by (try simp only [List.map_toArray, List.map_cons, List.map_nil]); first | done | rfl | (simp only [List.length_drop, List.length_take]; rfl)) ?_
          refine (@floor_calls (ZI (.slice A8 l.length c8)) g ⟨ov, adj, pre, n, fl, ag, true⟩ _ D7.out.O).mono ?_
          rintro e w9 ⟨rfl, hb⟩
          refine ⟨_, rfl, ?_⟩
          replace D7 := Aside0.mk (D7.out.below hb)
          replace FA := Aside0.mk (ftA_keep FA.out (KeepBut.of_below hb g none))
          replace FP := Aside0.mk (ftP_keep FP.out (KeepBut.of_below hb g none))
          replace B15 := Aside0.mk (blk_below B15.out hb)
          clear hb
          refine hK.out _ _ ⟨(blk_cell B15.out 0).trans rfl, (blk_cell B15.out 1).trans rfl, (blk_cell B15.out 2).trans rfl, (blk_cell B15.out 3).trans rfl, (blk_cell B15.out 4).trans rfl, (blk_cell B15.out 5).trans rfl⟩ (fun hHeld => ?_)
          clear hK K
          refine norm_ (a' := ?_) ?_ ?_
          rotate_left
          · show Act.put _ (some 80) _ = _
            simp only [Act.put, List.setIfInBounds_toArray, List.set_cons_zero, List.set_cons_succ, i64_w, i32_w]
            rfl
          refine pz 3 82 HT_ rfl rfl (by kernel_rfl) (fun _ _ _ h => h) (Or.inl ⟨by rfl, by intro w'; go_simp; with_reducible rfl⟩) (by simp only [Act.put, List.setIfInBounds_toArray, List.set_cons_zero, List.set_cons_succ, i64_w, i32_w]; rfl) ?_
          try rw [qf]
          refine pz 4 83 HT_ rfl rfl (by kernel_rfl) (fun _ _ _ h => h) (Or.inl ⟨by rfl, by intro w'; go_simp; with_reducible rfl⟩) (by simp only [Act.put, List.setIfInBounds_toArray, List.set_cons_zero, List.set_cons_succ, i64_w, i32_w]; rfl) ?_
          refine pz 5 84 HT_ rfl rfl (by kernel_rfl) (fun _ _ _ h => h) (Or.inl ⟨by rfl, by intro w'; go_simp; with_reducible rfl⟩) (by simp only [Act.put, List.setIfInBounds_toArray, List.set_cons_zero, List.set_cons_succ, i64_w, i32_w]; rfl) ?_
          refine pz 6 85 HT_ rfl rfl (by kernel_rfl) (fun _ _ _ h => h) (Or.inl ⟨by rfl, by intro w'; go_simp; with_reducible rfl⟩) (by simp only [Act.put, List.setIfInBounds_toArray, List.set_cons_zero, List.set_cons_succ, i64_w, i32_w]; rfl) ?_
          refine pz (v := undef) 7 86 HT_ rfl rfl (by kernel_rfl) (fun _ _ _ h => h) (Or.inr ⟨by rfl, rfl⟩) (by simp only [Act.put, List.setIfInBounds_toArray, List.set_cons_zero, List.set_cons_succ, i64_w, i32_w]; rfl) ?_
          refine pz (v := undef) 8 87 HT_ rfl rfl (by kernel_rfl) (fun _ _ _ h => h) (Or.inr ⟨by rfl, rfl⟩) (by simp only [Act.put, List.setIfInBounds_toArray, List.set_cons_zero, List.set_cons_succ, i64_w, i32_w]; rfl) ?_
          refine pz 9 88 HT_ rfl rfl (by kernel_rfl) (fun _ _ _ h => h) (Or.inl ⟨by rfl, by intro w'; go_simp; with_reducible rfl⟩) (by simp only [Act.put, List.setIfInBounds_toArray, List.set_cons_zero, List.set_cons_succ, i64_w, i32_w]; rfl) ?_
          refine pz 10 89 HT_ rfl rfl (by kernel_rfl) (fun _ _ _ h => h) (Or.inl ⟨by rfl, by intro w'; go_simp; with_reducible rfl⟩) (by simp only [Act.put, List.setIfInBounds_toArray, List.set_cons_zero, List.set_cons_succ, i64_w, i32_w]; rfl) ?_
          refine pz 11 90 HT_ rfl rfl (by kernel_rfl) (fun _ _ _ h => h) (Or.inl ⟨by rfl, by intro w'; go_simp; with_reducible rfl⟩) (by simp only [Act.put, List.setIfInBounds_toArray, List.set_cons_zero, List.set_cons_succ, i64_w, i32_w]; rfl) ?_
          refine pz 12 91 HT_ rfl rfl (by kernel_rfl) (fun _ _ _ h => h) (Or.inl ⟨by rfl, by intro w'; go_simp; with_reducible rfl⟩) (by simp only [Act.put, List.setIfInBounds_toArray, List.set_cons_zero, List.set_cons_succ, i64_w, i32_w]; rfl) ?_
          refine pz 13 92 HT_ rfl rfl (by kernel_rfl) (fun _ _ _ h => h) (Or.inl ⟨by rfl, by intro w'; go_simp; with_reducible rfl⟩) (by simp only [Act.put, List.setIfInBounds_toArray, List.set_cons_zero, List.set_cons_succ, i64_w, i32_w]; rfl) ?_
          refine tz 14 93 HT_ HW_ rfl rfl (by kernel_rfl) (fun _ _ _ h => h) (Or.inl ⟨by rfl, by rintro w' ⟨s0, s1, s2, s3, s4, s5⟩; go_simp; with_reducible rfl⟩) hHeld (by simp only [Act.put, List.setIfInBounds_toArray, List.set_cons_zero, List.set_cons_succ, i64_w, i32_w]; rfl) ?_
          refine one_ (i := 15) (N := some 94) #[true, true, true, true, true, true, true, true, true, true, true, true, true, true, true, true, false, false, false, false, false, false, false, false, false, false, false, false, false, false, false, false] rfl rfl (one_of HT_.out (by kernel_rfl)) (by decide) (fun K hK => ?_)
          refine goes_ Try.func20 (by kernel_rfl) rfl #[.agg #[.int .i64 n, .int .i64 fl, .int .i64 ag, .bool ov, .slice P1 adj.length p1, .slice P2 pre.length p2]] (by rfl) rfl rfl (by (try simp only [List.map_toArray, List.map_cons, List.map_nil]); first | done | rfl | (simp only [List.length_drop, List.length_take]; rfl)) ?_
          refine (valid_c n fl ag ov VG.out (rdl_of FA.out FP.out)).mono ?_
          rintro e w10 ⟨rfl, hb⟩
          rw [decide_eq_true HV.out]
          refine ⟨_, rfl, ?_⟩
          replace D7 := Aside0.mk (D7.out.below hb)
          replace FA := Aside0.mk (ftA_keep FA.out (KeepBut.of_below hb g none))
          replace FP := Aside0.mk (ftP_keep FP.out (KeepBut.of_below hb g none))
          replace B15 := Aside0.mk (blk_below B15.out hb)
          clear hb
          refine hK.out _ _ ⟨(blk_cell B15.out 0).trans rfl, (blk_cell B15.out 1).trans rfl, (blk_cell B15.out 2).trans rfl, (blk_cell B15.out 3).trans rfl, (blk_cell B15.out 4).trans rfl, (blk_cell B15.out 5).trans rfl⟩ (fun hHeld => ?_)
          clear hK K
          refine norm_ (a' := ?_) ?_ ?_
          rotate_left
          · show Act.put _ (some 94) _ = _
            simp only [Act.put, List.setIfInBounds_toArray, List.set_cons_zero, List.set_cons_succ, i64_w, i32_w]
            rfl
          refine pz 16 95 HT_ rfl rfl (by kernel_rfl) (fun _ _ _ h => h) (Or.inl ⟨by rfl, by intro w'; go_simp; with_reducible rfl⟩) (by simp only [Act.put, List.setIfInBounds_toArray, List.set_cons_zero, List.set_cons_succ, i64_w, i32_w]; rfl) ?_
          refine pz 17 96 HT_ rfl rfl (by kernel_rfl) (fun _ _ _ h => h) (Or.inl ⟨by rfl, by intro w'; go_simp; with_reducible rfl⟩) (by simp only [Act.put, List.setIfInBounds_toArray, List.set_cons_zero, List.set_cons_succ, i64_w, i32_w]; rfl) ?_
          refine pz 18 97 HT_ rfl rfl (by kernel_rfl) (fun _ _ _ h => h) (Or.inl ⟨by rfl, by intro w'; go_simp; with_reducible rfl⟩) (by simp only [Act.put, List.setIfInBounds_toArray, List.set_cons_zero, List.set_cons_succ, i64_w, i32_w]; rfl) ?_
          refine pz 20 99 HT_ rfl rfl (by kernel_rfl) (fun _ _ _ h => h) (Or.inl ⟨by rfl, by intro w'; go_simp; with_reducible rfl⟩) (by simp only [Act.put, List.setIfInBounds_toArray, List.set_cons_zero, List.set_cons_succ, i64_w, i32_w]; rfl) ?_
          refine tz 19 98 HT_ HW_ rfl rfl (by kernel_rfl) (fun _ _ _ h => h) (Or.inl ⟨by rfl, by rintro w' ⟨s0, s1, s2, s3, s4, s5⟩; go_simp; with_reducible rfl⟩) hHeld (by simp only [Act.put, List.setIfInBounds_toArray, List.set_cons_zero, List.set_cons_succ, i64_w, i32_w]; rfl) ?_
          refine pz 21 100 HT_ rfl rfl (by kernel_rfl) (fun _ _ _ h => h) (Or.inl ⟨by rfl, by intro w'; go_simp; with_reducible rfl⟩) (by simp only [Act.put, List.setIfInBounds_toArray, List.set_cons_zero, List.set_cons_succ, i64_w, i32_w]; rfl) ?_
          refine pz 22 101 HT_ rfl rfl (by kernel_rfl) (fun _ _ _ h => h) (Or.inl ⟨by rfl, by intro w'; go_simp; with_reducible rfl⟩) (by simp only [Act.put, List.setIfInBounds_toArray, List.set_cons_zero, List.set_cons_succ, i64_w, i32_w]; rfl) ?_
          refine pz 23 102 HT_ rfl rfl (by kernel_rfl) (fun _ _ _ h => h) (Or.inl ⟨by rfl, by intro w'; go_simp; with_reducible rfl⟩) (by simp only [Act.put, List.setIfInBounds_toArray, List.set_cons_zero, List.set_cons_succ, i64_w, i32_w]; rfl) ?_
          refine pz 24 103 HT_ rfl rfl (by kernel_rfl) (fun _ _ _ h => h) (Or.inl ⟨by rfl, by intro w'; go_simp; with_reducible rfl⟩) (by simp only [Act.put, List.setIfInBounds_toArray, List.set_cons_zero, List.set_cons_succ, i64_w, i32_w]; rfl) ?_
          refine pz 26 105 HT_ rfl rfl (by kernel_rfl) (fun _ _ _ h => h) (Or.inl ⟨by rfl, by intro w'; go_simp; with_reducible rfl⟩) (by simp only [Act.put, List.setIfInBounds_toArray, List.set_cons_zero, List.set_cons_succ, i64_w, i32_w]; rfl) ?_
          refine tz 25 104 HT_ HW_ rfl rfl (by kernel_rfl) (fun _ _ _ h => h) (Or.inl ⟨by rfl, by rintro w' ⟨s0, s1, s2, s3, s4, s5⟩; go_simp; with_reducible rfl⟩) hHeld (by simp only [Act.put, List.setIfInBounds_toArray, List.set_cons_zero, List.set_cons_succ, i64_w, i32_w]; rfl) ?_
          refine one_ (i := 27) (N := some 106) #[true, true, true, true, true, true, true, true, true, true, true, true, true, true, true, true, true, true, true, true, true, true, true, true, true, true, true, true, false, false, false, false] rfl rfl (one_of HT_.out (by kernel_rfl)) (by decide) (fun K hK => ?_)
          refine goes_ Try.func15 (by kernel_rfl) rfl #[.pointer (some ⟨g, 0, none⟩)] (by rfl) rfl rfl (by (try simp only [List.map_toArray, List.map_cons, List.map_nil]); first | done | rfl | (simp only [List.length_drop, List.length_take]; rfl)) ?_
          refine (@floor_calls (ZI (.slice A8 l.length c8)) g ⟨ov, adj, pre, n, fl, ag, true⟩ _ D7.out.O).mono ?_
          rintro e w11 ⟨rfl, hb⟩
          refine ⟨_, rfl, ?_⟩
          replace D7 := Aside0.mk (D7.out.below hb)
          replace FA := Aside0.mk (ftA_keep FA.out (KeepBut.of_below hb g none))
          replace FP := Aside0.mk (ftP_keep FP.out (KeepBut.of_below hb g none))
          replace B15 := Aside0.mk (blk_below B15.out hb)
          clear hb
          refine hK.out _ _ ⟨(blk_cell B15.out 0).trans rfl, (blk_cell B15.out 1).trans rfl, (blk_cell B15.out 2).trans rfl, (blk_cell B15.out 3).trans rfl, (blk_cell B15.out 4).trans rfl, (blk_cell B15.out 5).trans rfl⟩ (fun hHeld => ?_)
          clear hK K
          refine norm_ (a' := ?_) ?_ ?_
          rotate_left
          · show Act.put _ (some 106) _ = _
            simp only [Act.put, List.setIfInBounds_toArray, List.set_cons_zero, List.set_cons_succ, i64_w, i32_w]
            rfl
          refine pz 28 107 HT_ rfl rfl (by kernel_rfl) (fun _ _ _ h => h) (Or.inl ⟨by rfl, by intro w'; go_simp; with_reducible rfl⟩) (by simp only [Act.put, List.setIfInBounds_toArray, List.set_cons_zero, List.set_cons_succ, i64_w, i32_w]; rfl) ?_
          refine pz 29 108 HT_ rfl rfl (by kernel_rfl) (fun _ _ _ h => h) (Or.inl ⟨by rfl, by intro w'; go_simp; with_reducible rfl⟩) (by simp only [Act.put, List.setIfInBounds_toArray, List.set_cons_zero, List.set_cons_succ, i64_w, i32_w]; rfl) ?_
          refine pz 30 109 HT_ rfl rfl (by kernel_rfl) (fun _ _ _ h => h) (Or.inl ⟨by rfl, by intro w'; go_simp; with_reducible rfl⟩) (by simp only [Act.put, List.setIfInBounds_toArray, List.set_cons_zero, List.set_cons_succ, i64_w, i32_w]; rfl) ?_
          refine pz 31 110 HT_ rfl rfl (by kernel_rfl) (fun _ _ _ h => h) (Or.inl ⟨by rfl, by intro w'; go_simp; with_reducible rfl⟩) (by simp only [Act.put, List.setIfInBounds_toArray, List.set_cons_zero, List.set_cons_succ, i64_w, i32_w]; rfl) ?_
          refine done_ (done_of HT_.out (by kernel_rfl)) ?_
          clear HT_ HW_ hHeld
          go_wp2_with (
            first
            | ((with_reducible refine gate_callee (f := 15) rfl ?_); refine goesL_ (some 112) rfl rfl Try.func15 (by kernel_rfl) rfl #[.pointer (some ⟨g, 0, none⟩)] rfl (by (try simp only [List.map_toArray, List.map_cons, List.map_nil]); first | done | rfl | (simp only [List.length_drop, List.length_take]; rfl)) ?_; refine (@floor_calls (ZI (.slice A8 l.length c8)) g ⟨ov, adj, pre, n, fl, ag, true⟩ _ D7.out.O).mono ?_; rintro e w13 ⟨rfl, hb⟩; refine ⟨_, rfl, ?_⟩; replace D7 := Aside0.mk (D7.out.below hb); replace FA := Aside0.mk (ftA_keep FA.out (KeepBut.of_below hb g none)); replace FP := Aside0.mk (ftP_keep FP.out (KeepBut.of_below hb g none)); replace B15 := Aside0.mk (blk_below B15.out hb); clear hb))
          go_loopw [16] (fun v16 wr => ∃ k : Int, v16 = .int .i64 k ∧ Aside0 (0 ≤ k ∧ k ≤ l.length) ∧ Aside0 (GW w g wr ⟨ov, adj, pre, n, fl, ag, true⟩ (.slice A8 l.length c8) l) ∧ Aside0 (wr.heap[b14]? = some (.cells #[.int .i64 n, .int .i64 fl, .int .i64 ag, .bool ov, .slice P1 adj.length p1, .slice P2 pre.length p2] 32 (0, 0))) ∧ Aside0 (@FtA (ZI (.slice A8 l.length c8)) wr g (.slice P1 adj.length p1) adj) ∧ Aside0 (@FtP (ZI (.slice A8 l.length c8)) wr g (.slice P2 pre.length p2) pre)) (fun v16 _ => ((l.length : Int) - intOf v16).toNat)
          case atStart => exact ⟨0, rfl, ⟨by omega, by omega⟩, D7, B15, FA, FP⟩
          case round =>
            clear D7 B15 FA FP
            obtain ⟨k, rfl, hk, D7, B15, FA, FP⟩ := hrel
            have k0 := hk.out.1
            have k1 := hk.out.2
            have z0 : (_ : World).cell? ⟨b14, 0, none⟩ = some (.int .i64 n) := (blk_cell B15.out 0).trans rfl; have zf0 := blk_frozen B15.out 0; have z1 : (_ : World).cell? ⟨b14, 1, none⟩ = some (.int .i64 fl) := (blk_cell B15.out 1).trans rfl; have zf1 := blk_frozen B15.out 1; have z2 : (_ : World).cell? ⟨b14, 2, none⟩ = some (.int .i64 ag) := (blk_cell B15.out 2).trans rfl; have zf2 := blk_frozen B15.out 2; have z3 : (_ : World).cell? ⟨b14, 3, none⟩ = some (.bool ov) := (blk_cell B15.out 3).trans rfl; have zf3 := blk_frozen B15.out 3; have z4 : (_ : World).cell? ⟨b14, 4, none⟩ = some (.slice P1 adj.length p1) := (blk_cell B15.out 4).trans rfl; have zf4 := blk_frozen B15.out 4; have z5 : (_ : World).cell? ⟨b14, 5, none⟩ = some (.slice P2 pre.length p2) := (blk_cell B15.out 5).trans rfl; have zf5 := blk_frozen B15.out 5
            by_cases ck : k < (l.length : Int)
            rotate_left
            · go_wp2_with fail
              go_roundw
              case rel => exact ⟨_, i + 1, _, rfl, rfl, ⟨by omega, by omega⟩, IV1, ⟨fun a h => ⟨(VK1.out a h).1, (VK1.out a h).2.1⟩⟩, ⟨by have := HL1.out; omega⟩, D7⟩
              case measure => simp [intOf]; omega
            · go_wp2_with fail
              go_roundw
              case rel => exact ⟨_, i + 1, _, rfl, rfl, ⟨by omega, by omega⟩, IV1, ⟨fun a h => ⟨(VK1.out a h).1, (VK1.out a h).2.1⟩⟩, ⟨by have := HL1.out; omega⟩, D7⟩
              case measure => simp [intOf]; omega
        | true =>
          refine start_ (n := 32) (S := fun w' => w'.cell? ⟨b14, 0, none⟩ = some (.int .i64 n) ∧ w'.cell? ⟨b14, 1, none⟩ = some (.int .i64 fl) ∧ w'.cell? ⟨b14, 2, none⟩ = some (.int .i64 ag) ∧ w'.cell? ⟨b14, 3, none⟩ = some (.bool ov) ∧ w'.cell? ⟨b14, 4, none⟩ = some (.slice P1 adj.length p1) ∧ w'.cell? ⟨b14, 5, none⟩ = some (.slice P2 pre.length p2)) (ds := []) #[false, false, false, false, false, false, false, false, false, false, false, false, false, false, false, false, false, false, false, false, false, false, false, false, false, false, false, false, false, false, false, false] (by kernel_rfl) rfl rfl ⟨(blk_cell B15.out 0).trans rfl, (blk_cell B15.out 1).trans rfl, (blk_cell B15.out 2).trans rfl, (blk_cell B15.out 3).trans rfl, (blk_cell B15.out 4).trans rfl, (blk_cell B15.out 5).trans rfl⟩ (fun hHeld => ?_); refine with_tabW gg.tab26 gg.bits26 (fun HT_ HW_ => ?_)
          replace D7 := Aside0.mk (D7.out.below (below_drew (Below.refl _ _)))
          replace FA := Aside0.mk (ftA_keep FA.out (KeepBut.of_below (below_drew (Below.refl _ _)) g none))
          replace FP := Aside0.mk (ftP_keep FP.out (KeepBut.of_below (below_drew (Below.refl _ _)) g none))
          replace B15 := Aside0.mk (blk_below B15.out (below_drew (Below.refl _ _)))
          generalize w7.drew = w8 at D7 B15 FA FP hHeld ⊢
          refine pz 0 79 HT_ rfl rfl (by kernel_rfl) (fun _ _ _ h => h) (Or.inl ⟨by rfl, by intro w'; go_simp; with_reducible rfl⟩) (by simp only [Act.put, List.setIfInBounds_toArray, List.set_cons_zero, List.set_cons_succ, i64_w, i32_w]; rfl) ?_
          refine pz 2 81 HT_ rfl rfl (by kernel_rfl) (fun _ _ _ h => h) (Or.inl ⟨by rfl, by intro w'; go_simp; with_reducible rfl⟩) (by simp only [Act.put, List.setIfInBounds_toArray, List.set_cons_zero, List.set_cons_succ, i64_w, i32_w]; rfl) ?_
          refine one_ (i := 1) (N := some 80) #[true, true, true, false, false, false, false, false, false, false, false, false, false, false, false, false, false, false, false, false, false, false, false, false, false, false, false, false, false, false, false, false] rfl rfl (one_of HT_.out (by kernel_rfl)) (by decide) (fun K hK => ?_)
          refine goes_ Try.func15 (by kernel_rfl) rfl #[.pointer (some ⟨g, 0, none⟩)] (by rfl) rfl rfl (by (try simp only [List.map_toArray, List.map_cons, List.map_nil]); first | done | rfl | (simp only [List.length_drop, List.length_take]; rfl)) ?_
          refine (@floor_calls (ZI (.slice A8 l.length c8)) g ⟨ov, adj, pre, n, fl, ag, true⟩ _ D7.out.O).mono ?_
          rintro e w9 ⟨rfl, hb⟩
          refine ⟨_, rfl, ?_⟩
          replace D7 := Aside0.mk (D7.out.below hb)
          replace FA := Aside0.mk (ftA_keep FA.out (KeepBut.of_below hb g none))
          replace FP := Aside0.mk (ftP_keep FP.out (KeepBut.of_below hb g none))
          replace B15 := Aside0.mk (blk_below B15.out hb)
          clear hb
          refine hK.out _ _ ⟨(blk_cell B15.out 0).trans rfl, (blk_cell B15.out 1).trans rfl, (blk_cell B15.out 2).trans rfl, (blk_cell B15.out 3).trans rfl, (blk_cell B15.out 4).trans rfl, (blk_cell B15.out 5).trans rfl⟩ (fun hHeld => ?_)
          clear hK K
          refine norm_ (a' := ?_) ?_ ?_
          rotate_left
          · show Act.put _ (some 80) _ = _
            simp only [Act.put, List.setIfInBounds_toArray, List.set_cons_zero, List.set_cons_succ, i64_w, i32_w]
            rfl
          refine pz 3 82 HT_ rfl rfl (by kernel_rfl) (fun _ _ _ h => h) (Or.inl ⟨by rfl, by intro w'; go_simp; with_reducible rfl⟩) (by simp only [Act.put, List.setIfInBounds_toArray, List.set_cons_zero, List.set_cons_succ, i64_w, i32_w]; rfl) ?_
          try rw [qf]
          refine pz 4 83 HT_ rfl rfl (by kernel_rfl) (fun _ _ _ h => h) (Or.inl ⟨by rfl, by intro w'; go_simp; with_reducible rfl⟩) (by simp only [Act.put, List.setIfInBounds_toArray, List.set_cons_zero, List.set_cons_succ, i64_w, i32_w]; rfl) ?_
          refine pz 5 84 HT_ rfl rfl (by kernel_rfl) (fun _ _ _ h => h) (Or.inl ⟨by rfl, by intro w'; go_simp; with_reducible rfl⟩) (by simp only [Act.put, List.setIfInBounds_toArray, List.set_cons_zero, List.set_cons_succ, i64_w, i32_w]; rfl) ?_
          refine pz 6 85 HT_ rfl rfl (by kernel_rfl) (fun _ _ _ h => h) (Or.inl ⟨by rfl, by intro w'; go_simp; with_reducible rfl⟩) (by simp only [Act.put, List.setIfInBounds_toArray, List.set_cons_zero, List.set_cons_succ, i64_w, i32_w]; rfl) ?_
          refine pz 7 86 HT_ rfl rfl (by kernel_rfl) (fun _ _ _ h => h) (Or.inl ⟨by rfl, by intro w'; go_simp; with_reducible rfl⟩) (by simp only [Act.put, List.setIfInBounds_toArray, List.set_cons_zero, List.set_cons_succ, i64_w, i32_w]; rfl) ?_
          refine pz 8 87 HT_ rfl rfl (by kernel_rfl) (fun _ _ _ h => h) (Or.inl ⟨by rfl, by intro w'; go_simp; with_reducible rfl⟩) (by simp only [Act.put, List.setIfInBounds_toArray, List.set_cons_zero, List.set_cons_succ, i64_w, i32_w]; rfl) ?_
          refine pz 9 88 HT_ rfl rfl (by kernel_rfl) (fun _ _ _ h => h) (Or.inl ⟨by rfl, by intro w'; go_simp; with_reducible rfl⟩) (by simp only [Act.put, List.setIfInBounds_toArray, List.set_cons_zero, List.set_cons_succ, i64_w, i32_w]; rfl) ?_
          refine pz 10 89 HT_ rfl rfl (by kernel_rfl) (fun _ _ _ h => h) (Or.inl ⟨by rfl, by intro w'; go_simp; with_reducible rfl⟩) (by simp only [Act.put, List.setIfInBounds_toArray, List.set_cons_zero, List.set_cons_succ, i64_w, i32_w]; rfl) ?_
          refine pz 11 90 HT_ rfl rfl (by kernel_rfl) (fun _ _ _ h => h) (Or.inl ⟨by rfl, by intro w'; go_simp; with_reducible rfl⟩) (by simp only [Act.put, List.setIfInBounds_toArray, List.set_cons_zero, List.set_cons_succ, i64_w, i32_w]; rfl) ?_
          refine pz 12 91 HT_ rfl rfl (by kernel_rfl) (fun _ _ _ h => h) (Or.inl ⟨by rfl, by intro w'; go_simp; with_reducible rfl⟩) (by simp only [Act.put, List.setIfInBounds_toArray, List.set_cons_zero, List.set_cons_succ, i64_w, i32_w]; rfl) ?_
          refine pz 13 92 HT_ rfl rfl (by kernel_rfl) (fun _ _ _ h => h) (Or.inl ⟨by rfl, by intro w'; go_simp; with_reducible rfl⟩) (by simp only [Act.put, List.setIfInBounds_toArray, List.set_cons_zero, List.set_cons_succ, i64_w, i32_w]; rfl) ?_
          refine tz 14 93 HT_ HW_ rfl rfl (by kernel_rfl) (fun _ _ _ h => h) (Or.inl ⟨by rfl, by rintro w' ⟨s0, s1, s2, s3, s4, s5⟩; go_simp; with_reducible rfl⟩) hHeld (by simp only [Act.put, List.setIfInBounds_toArray, List.set_cons_zero, List.set_cons_succ, i64_w, i32_w]; rfl) ?_
          refine one_ (i := 15) (N := some 94) #[true, true, true, true, true, true, true, true, true, true, true, true, true, true, true, true, false, false, false, false, false, false, false, false, false, false, false, false, false, false, false, false] rfl rfl (one_of HT_.out (by kernel_rfl)) (by decide) (fun K hK => ?_)
          refine goes_ Try.func20 (by kernel_rfl) rfl #[.agg #[.int .i64 n, .int .i64 fl, .int .i64 ag, .bool ov, .slice P1 adj.length p1, .slice P2 pre.length p2]] (by rfl) rfl rfl (by (try simp only [List.map_toArray, List.map_cons, List.map_nil]); first | done | rfl | (simp only [List.length_drop, List.length_take]; rfl)) ?_
          refine (valid_c n fl ag ov VG.out (rdl_of FA.out FP.out)).mono ?_
          rintro e w10 ⟨rfl, hb⟩
          rw [decide_eq_true HV.out]
          refine ⟨_, rfl, ?_⟩
          replace D7 := Aside0.mk (D7.out.below hb)
          replace FA := Aside0.mk (ftA_keep FA.out (KeepBut.of_below hb g none))
          replace FP := Aside0.mk (ftP_keep FP.out (KeepBut.of_below hb g none))
          replace B15 := Aside0.mk (blk_below B15.out hb)
          clear hb
          refine hK.out _ _ ⟨(blk_cell B15.out 0).trans rfl, (blk_cell B15.out 1).trans rfl, (blk_cell B15.out 2).trans rfl, (blk_cell B15.out 3).trans rfl, (blk_cell B15.out 4).trans rfl, (blk_cell B15.out 5).trans rfl⟩ (fun hHeld => ?_)
          clear hK K
          refine norm_ (a' := ?_) ?_ ?_
          rotate_left
          · show Act.put _ (some 94) _ = _
            simp only [Act.put, List.setIfInBounds_toArray, List.set_cons_zero, List.set_cons_succ, i64_w, i32_w]
            rfl
          refine pz 16 95 HT_ rfl rfl (by kernel_rfl) (fun _ _ _ h => h) (Or.inl ⟨by rfl, by intro w'; go_simp; with_reducible rfl⟩) (by simp only [Act.put, List.setIfInBounds_toArray, List.set_cons_zero, List.set_cons_succ, i64_w, i32_w]; rfl) ?_
          refine pz 17 96 HT_ rfl rfl (by kernel_rfl) (fun _ _ _ h => h) (Or.inl ⟨by rfl, by intro w'; go_simp; with_reducible rfl⟩) (by simp only [Act.put, List.setIfInBounds_toArray, List.set_cons_zero, List.set_cons_succ, i64_w, i32_w]; rfl) ?_
          refine pz 18 97 HT_ rfl rfl (by kernel_rfl) (fun _ _ _ h => h) (Or.inl ⟨by rfl, by intro w'; go_simp; with_reducible rfl⟩) (by simp only [Act.put, List.setIfInBounds_toArray, List.set_cons_zero, List.set_cons_succ, i64_w, i32_w]; rfl) ?_
          refine pz 20 99 HT_ rfl rfl (by kernel_rfl) (fun _ _ _ h => h) (Or.inl ⟨by rfl, by intro w'; go_simp; with_reducible rfl⟩) (by simp only [Act.put, List.setIfInBounds_toArray, List.set_cons_zero, List.set_cons_succ, i64_w, i32_w]; rfl) ?_
          refine tz 19 98 HT_ HW_ rfl rfl (by kernel_rfl) (fun _ _ _ h => h) (Or.inl ⟨by rfl, by rintro w' ⟨s0, s1, s2, s3, s4, s5⟩; go_simp; with_reducible rfl⟩) hHeld (by simp only [Act.put, List.setIfInBounds_toArray, List.set_cons_zero, List.set_cons_succ, i64_w, i32_w]; rfl) ?_
          refine pz 21 100 HT_ rfl rfl (by kernel_rfl) (fun _ _ _ h => h) (Or.inl ⟨by rfl, by intro w'; go_simp; with_reducible rfl⟩) (by simp only [Act.put, List.setIfInBounds_toArray, List.set_cons_zero, List.set_cons_succ, i64_w, i32_w]; rfl) ?_
          refine pz 22 101 HT_ rfl rfl (by kernel_rfl) (fun _ _ _ h => h) (Or.inl ⟨by rfl, by intro w'; go_simp; with_reducible rfl⟩) (by simp only [Act.put, List.setIfInBounds_toArray, List.set_cons_zero, List.set_cons_succ, i64_w, i32_w]; rfl) ?_
          refine pz 23 102 HT_ rfl rfl (by kernel_rfl) (fun _ _ _ h => h) (Or.inl ⟨by rfl, by intro w'; go_simp; with_reducible rfl⟩) (by simp only [Act.put, List.setIfInBounds_toArray, List.set_cons_zero, List.set_cons_succ, i64_w, i32_w]; rfl) ?_
          refine pz 24 103 HT_ rfl rfl (by kernel_rfl) (fun _ _ _ h => h) (Or.inl ⟨by rfl, by intro w'; go_simp; with_reducible rfl⟩) (by simp only [Act.put, List.setIfInBounds_toArray, List.set_cons_zero, List.set_cons_succ, i64_w, i32_w]; rfl) ?_
          refine pz 26 105 HT_ rfl rfl (by kernel_rfl) (fun _ _ _ h => h) (Or.inl ⟨by rfl, by intro w'; go_simp; with_reducible rfl⟩) (by simp only [Act.put, List.setIfInBounds_toArray, List.set_cons_zero, List.set_cons_succ, i64_w, i32_w]; rfl) ?_
          refine tz 25 104 HT_ HW_ rfl rfl (by kernel_rfl) (fun _ _ _ h => h) (Or.inl ⟨by rfl, by rintro w' ⟨s0, s1, s2, s3, s4, s5⟩; go_simp; with_reducible rfl⟩) hHeld (by simp only [Act.put, List.setIfInBounds_toArray, List.set_cons_zero, List.set_cons_succ, i64_w, i32_w]; rfl) ?_
          refine one_ (i := 27) (N := some 106) #[true, true, true, true, true, true, true, true, true, true, true, true, true, true, true, true, true, true, true, true, true, true, true, true, true, true, true, true, false, false, false, false] rfl rfl (one_of HT_.out (by kernel_rfl)) (by decide) (fun K hK => ?_)
          refine goes_ Try.func15 (by kernel_rfl) rfl #[.pointer (some ⟨g, 0, none⟩)] (by rfl) rfl rfl (by (try simp only [List.map_toArray, List.map_cons, List.map_nil]); first | done | rfl | (simp only [List.length_drop, List.length_take]; rfl)) ?_
          refine (@floor_calls (ZI (.slice A8 l.length c8)) g ⟨ov, adj, pre, n, fl, ag, true⟩ _ D7.out.O).mono ?_
          rintro e w11 ⟨rfl, hb⟩
          refine ⟨_, rfl, ?_⟩
          replace D7 := Aside0.mk (D7.out.below hb)
          replace FA := Aside0.mk (ftA_keep FA.out (KeepBut.of_below hb g none))
          replace FP := Aside0.mk (ftP_keep FP.out (KeepBut.of_below hb g none))
          replace B15 := Aside0.mk (blk_below B15.out hb)
          clear hb
          refine hK.out _ _ ⟨(blk_cell B15.out 0).trans rfl, (blk_cell B15.out 1).trans rfl, (blk_cell B15.out 2).trans rfl, (blk_cell B15.out 3).trans rfl, (blk_cell B15.out 4).trans rfl, (blk_cell B15.out 5).trans rfl⟩ (fun hHeld => ?_)
          clear hK K
          refine norm_ (a' := ?_) ?_ ?_
          rotate_left
          · show Act.put _ (some 106) _ = _
            simp only [Act.put, List.setIfInBounds_toArray, List.set_cons_zero, List.set_cons_succ, i64_w, i32_w]
            rfl
          refine pz 28 107 HT_ rfl rfl (by kernel_rfl) (fun _ _ _ h => h) (Or.inl ⟨by rfl, by intro w'; go_simp; with_reducible rfl⟩) (by simp only [Act.put, List.setIfInBounds_toArray, List.set_cons_zero, List.set_cons_succ, i64_w, i32_w]; rfl) ?_
          refine pz 29 108 HT_ rfl rfl (by kernel_rfl) (fun _ _ _ h => h) (Or.inl ⟨by rfl, by intro w'; go_simp; with_reducible rfl⟩) (by simp only [Act.put, List.setIfInBounds_toArray, List.set_cons_zero, List.set_cons_succ, i64_w, i32_w]; rfl) ?_
          refine pz 30 109 HT_ rfl rfl (by kernel_rfl) (fun _ _ _ h => h) (Or.inl ⟨by rfl, by intro w'; go_simp; with_reducible rfl⟩) (by simp only [Act.put, List.setIfInBounds_toArray, List.set_cons_zero, List.set_cons_succ, i64_w, i32_w]; rfl) ?_
          refine pz 31 110 HT_ rfl rfl (by kernel_rfl) (fun _ _ _ h => h) (Or.inl ⟨by rfl, by intro w'; go_simp; with_reducible rfl⟩) (by simp only [Act.put, List.setIfInBounds_toArray, List.set_cons_zero, List.set_cons_succ, i64_w, i32_w]; rfl) ?_
          refine done_ (done_of HT_.out (by kernel_rfl)) ?_
          clear HT_ HW_ hHeld
          go_wp2_with (
            first
            | ((with_reducible refine gate_callee (f := 15) rfl ?_); refine goesL_ (some 112) rfl rfl Try.func15 (by kernel_rfl) rfl #[.pointer (some ⟨g, 0, none⟩)] rfl (by (try simp only [List.map_toArray, List.map_cons, List.map_nil]); first | done | rfl | (simp only [List.length_drop, List.length_take]; rfl)) ?_; refine (@floor_calls (ZI (.slice A8 l.length c8)) g ⟨ov, adj, pre, n, fl, ag, true⟩ _ D7.out.O).mono ?_; rintro e w13 ⟨rfl, hb⟩; refine ⟨_, rfl, ?_⟩; replace D7 := Aside0.mk (D7.out.below hb); replace FA := Aside0.mk (ftA_keep FA.out (KeepBut.of_below hb g none)); replace FP := Aside0.mk (ftP_keep FP.out (KeepBut.of_below hb g none)); replace B15 := Aside0.mk (blk_below B15.out hb); clear hb))
          go_loopw [16] (fun v16 wr => ∃ k : Int, v16 = .int .i64 k ∧ Aside0 (0 ≤ k ∧ k ≤ l.length) ∧ Aside0 (GW w g wr ⟨ov, adj, pre, n, fl, ag, true⟩ (.slice A8 l.length c8) l) ∧ Aside0 (wr.heap[b14]? = some (.cells #[.int .i64 n, .int .i64 fl, .int .i64 ag, .bool ov, .slice P1 adj.length p1, .slice P2 pre.length p2] 32 (0, 0))) ∧ Aside0 (@FtA (ZI (.slice A8 l.length c8)) wr g (.slice P1 adj.length p1) adj) ∧ Aside0 (@FtP (ZI (.slice A8 l.length c8)) wr g (.slice P2 pre.length p2) pre)) (fun v16 _ => ((l.length : Int) - intOf v16).toNat)
          case atStart => exact ⟨0, rfl, ⟨by omega, by omega⟩, D7, B15, FA, FP⟩
          case round =>
            clear D7 B15 FA FP
            obtain ⟨k, rfl, hk, D7, B15, FA, FP⟩ := hrel
            have k0 := hk.out.1
            have k1 := hk.out.2
            have z0 : (_ : World).cell? ⟨b14, 0, none⟩ = some (.int .i64 n) := (blk_cell B15.out 0).trans rfl; have zf0 := blk_frozen B15.out 0; have z1 : (_ : World).cell? ⟨b14, 1, none⟩ = some (.int .i64 fl) := (blk_cell B15.out 1).trans rfl; have zf1 := blk_frozen B15.out 1; have z2 : (_ : World).cell? ⟨b14, 2, none⟩ = some (.int .i64 ag) := (blk_cell B15.out 2).trans rfl; have zf2 := blk_frozen B15.out 2; have z3 : (_ : World).cell? ⟨b14, 3, none⟩ = some (.bool ov) := (blk_cell B15.out 3).trans rfl; have zf3 := blk_frozen B15.out 3; have z4 : (_ : World).cell? ⟨b14, 4, none⟩ = some (.slice P1 adj.length p1) := (blk_cell B15.out 4).trans rfl; have zf4 := blk_frozen B15.out 4; have z5 : (_ : World).cell? ⟨b14, 5, none⟩ = some (.slice P2 pre.length p2) := (blk_cell B15.out 5).trans rfl; have zf5 := blk_frozen B15.out 5
            by_cases ck : k < (l.length : Int)
            rotate_left
            · go_wp2_with (
                first
                | ((with_reducible refine gate_builtin (b := .append) (xs := #[.tmp 130, .tmp 132]) rfl ?_); at_builtin; refine OwnRow.append (R := KE g (.slice A8 l.length c8) _) (w0 := w) w.heap.size rfl (.tmp 130) (.tmp 132) 45 32 (.agg #[.int .i64 0, .int .i64 0, .int .i64 0, .bool false, .slice none 0 0, .slice none 0 0]) 6 80 rfl (by kernel_rfl) (by kernel_rfl) rfl (by decide) (by decide) (.slice A8 l.length c8) l (⟨n, fl, ag, ov, adj, pre⟩ : L) [.int .i64 n, .int .i64 fl, .int .i64 ag, .bool ov, .slice P1 adj.length p1, .slice P2 pre.length p2] rfl rfl (⟨_, _, rfl, FA.out, FP.out⟩) rfl (by intro u hu; simp only [List.mem_cons, List.not_mem_nil, or_false] at hu; rcases hu with rfl | rfl | rfl | rfl | rfl | rfl <;> rfl) D7.out.K D7.out.HB D7.out.HB.size (by have := HL1.out; have := hl15; omega) ?_; intro v9 w9 hown hb hg hat; have D9 := Aside0.mk (D7.out.app hown hb hg hat); clear hown hb hg hat))
              go_roundw
              case rel =>
                refine ⟨_, i + 1, _, rfl, rfl, ⟨by omega, by omega⟩, IV1, ⟨fun a h => ?_⟩, ⟨?_⟩, D9⟩
                · rcases List.mem_append.1 h with h | h
                  · exact ⟨(VK1.out a h).1, (VK1.out a h).2.1⟩
                  · obtain rfl := List.mem_singleton.1 h
                    exact ⟨HV.out, Int.le_refl _⟩
                · have := HL1.out
                  simp only [List.length_append, List.length_singleton]
                  omega
              case measure => simp [intOf]; omega
            obtain ⟨ad2, c2, E1, e1, E2, e2, a, ham, hv, hcl, RE, y0, y1, y2, y3, y4, y5⟩ := D7.out.at_ k k0 ck
            obtain ⟨hA, hc⟩ : A8 = some ad2 ∧ c8 = c2 := by
              injection hv with h1 _ h3
              exact ⟨h1, h3⟩
            subst hA hc
            have RE' := Aside0.mk RE
            clear RE hv hcl
            have VE := Aside0.mk (VK1.out a ham)
            clear ham
            have hnw : newer (⟨n, fl, ag, ov, adj, pre⟩ : L) a = 1 := newer_lt HV.out VE.out.1 (VE.out.2.2 (by simp))
            have HN := Aside0.mk hnw
            clear hnw
            go_upto_region 32 with (fail)
            refine start_ (n := 7) (S := fun w' => (w'.cell? ⟨b14, 0, none⟩ = some (.int .i64 n) ∧ w'.cell? ⟨b14, 1, none⟩ = some (.int .i64 fl) ∧ w'.cell? ⟨b14, 2, none⟩ = some (.int .i64 ag) ∧ w'.cell? ⟨b14, 3, none⟩ = some (.bool ov) ∧ w'.cell? ⟨b14, 4, none⟩ = some (.slice P1 adj.length p1) ∧ w'.cell? ⟨b14, 5, none⟩ = some (.slice P2 pre.length p2)) ∧ w'.cell? (ad2.add (k.toNat * 6)) = some (.int .i64 a.o) ∧ w'.cell? ⟨(ad2.add (k.toNat * 6)).block, (ad2.add (k.toNat * 6)).off + 1, none⟩ = some (.int .i64 a.s) ∧ w'.cell? ⟨(ad2.add (k.toNat * 6)).block, (ad2.add (k.toNat * 6)).off + 2, none⟩ = some (.int .i64 a.age) ∧ w'.cell? ⟨(ad2.add (k.toNat * 6)).block, (ad2.add (k.toNat * 6)).off + 3, none⟩ = some (.bool a.ov) ∧ w'.cell? ⟨(ad2.add (k.toNat * 6)).block, (ad2.add (k.toNat * 6)).off + 4, none⟩ = some (.slice E1 a.ad.length e1) ∧ w'.cell? ⟨(ad2.add (k.toNat * 6)).block, (ad2.add (k.toNat * 6)).off + 5, none⟩ = some (.slice E2 a.pf.length e2)) (ds := [5]) #[false, false, false, false, false, false, false] (by kernel_rfl) rfl rfl ⟨⟨(blk_cell B15.out 0).trans rfl, (blk_cell B15.out 1).trans rfl, (blk_cell B15.out 2).trans rfl, (blk_cell B15.out 3).trans rfl, (blk_cell B15.out 4).trans rfl, (blk_cell B15.out 5).trans rfl⟩, y0, y1, y2, y3, y4, y5⟩ (fun hHeld => ?_); refine with_tabW gg.tab32 gg.bits32 (fun HT_ HW_ => ?_)
            replace D7 := Aside0.mk (D7.out.below (below_drew (Below.refl _ _)))
            replace FA := Aside0.mk (ftA_keep FA.out (KeepBut.of_below (below_drew (Below.refl _ _)) g none))
            replace FP := Aside0.mk (ftP_keep FP.out (KeepBut.of_below (below_drew (Below.refl _ _)) g none))
            replace B15 := Aside0.mk (blk_below B15.out (below_drew (Below.refl _ _)))
            replace RE' := Aside0.mk (RE'.out.below (below_drew (Below.refl _ _)))
            clear z0 z1 z2 z3 z4 z5 zf0 zf1 zf2 zf3 zf4 zf5 y0 y1 y2 y3 y4 y5
            have p1_ := eq_true k0
            have p2_ := eq_true ck
            refine pz 1 123 HT_ rfl rfl (by kernel_rfl) (fun _ _ _ h => h) (Or.inl ⟨by rfl, by intro w'; go_simp; with_reducible rfl⟩) (by simp only [Act.put, List.setIfInBounds_toArray, List.set_cons_zero, List.set_cons_succ, i64_w, i32_w]; rfl) ?_
            refine pz 2 124 HT_ rfl rfl (by kernel_rfl) (fun _ _ _ h => h) (Or.inl ⟨by rfl, by intro w'; go_simp; with_reducible rfl⟩) (by simp only [Act.put, List.setIfInBounds_toArray, List.set_cons_zero, List.set_cons_succ, i64_w, i32_w]; rfl) ?_
            refine tz 0 122 HT_ HW_ rfl rfl (by kernel_rfl) (fun _ _ _ h => h) (Or.inl ⟨by rfl, by rintro w' ⟨⟨s0, s1, s2, s3, s4, s5⟩, t0, t1, t2, t3, t4, t5⟩; go_simp; with_reducible rfl⟩) hHeld (by simp only [Act.put, List.setIfInBounds_toArray, List.set_cons_zero, List.set_cons_succ, i64_w, i32_w]; rfl) ?_
            refine tz 3 125 HT_ HW_ rfl rfl (by kernel_rfl) (fun _ _ _ h => h) (Or.inl ⟨by rfl, by rintro w' ⟨⟨s0, s1, s2, s3, s4, s5⟩, t0, t1, t2, t3, t4, t5⟩; go_simp; with_reducible rfl⟩) hHeld (by simp only [Act.put, List.setIfInBounds_toArray, List.set_cons_zero, List.set_cons_succ, i64_w, i32_w]; rfl) ?_
            refine tz 4 126 HT_ HW_ rfl rfl (by kernel_rfl) (fun _ _ _ h => h) (Or.inl ⟨by rfl, by rintro w' ⟨⟨s0, s1, s2, s3, s4, s5⟩, t0, t1, t2, t3, t4, t5⟩; go_simp; with_reducible rfl⟩) hHeld (by simp only [Act.put, List.setIfInBounds_toArray, List.set_cons_zero, List.set_cons_succ, i64_w, i32_w]; rfl) ?_
            refine last_ (i := 5) (N := some 127) #[true, true, true, true, true, true, false] rfl rfl (one_of HT_.out (by kernel_rfl)) (by decide) (fun K hK => ?_)
            refine goes_ Try.func21 (by kernel_rfl) rfl #[.agg #[.int .i64 n, .int .i64 fl, .int .i64 ag, .bool ov, .slice P1 adj.length p1, .slice P2 pre.length p2], .agg #[.int .i64 a.o, .int .i64 a.s, .int .i64 a.age, .bool a.ov, .slice E1 a.ad.length e1, .slice E2 a.pf.length e2]] (by rfl) rfl rfl (by (try simp only [List.map_toArray, List.map_cons, List.map_nil]); first | done | rfl | (simp only [List.length_drop, List.length_take]; rfl)) ?_
            refine (newer_c n fl ag a.o a.s a.age ov a.ov VG.out (valid_g VE.out.1) (rdl_of FA.out FP.out) RE'.out).mono ?_
            rintro e w14 ⟨rfl, hb⟩
            rw [HN.out]
            refine ⟨_, rfl, ?_⟩
            replace D7 := Aside0.mk (D7.out.below hb)
            replace FA := Aside0.mk (ftA_keep FA.out (KeepBut.of_below hb g none))
            replace FP := Aside0.mk (ftP_keep FP.out (KeepBut.of_below hb g none))
            replace B15 := Aside0.mk (blk_below B15.out hb)
            clear hb
            refine hK.out _ _ ?_
            clear hK K
            refine norm_ (a' := ?_) ?_ ?_
            rotate_left
            · show Act.put _ (some 127) _ = _
              simp only [Act.put, List.setIfInBounds_toArray, List.set_cons_zero, List.set_cons_succ, i64_w, i32_w]
              rfl
            refine pz 6 128 HT_ rfl rfl (by kernel_rfl) (fun _ _ _ h => h) (Or.inl ⟨by rfl, by intro w'; go_simp; with_reducible rfl⟩) (by simp only [Act.put, List.setIfInBounds_toArray, List.set_cons_zero, List.set_cons_succ, i64_w, i32_w]; rfl) ?_
            refine done_ (done_of HT_.out (by kernel_rfl)) ?_
            clear HT_ HW_ hHeld
            go_wp2_with fail
            go_roundw
            case rel => exact ⟨k + 1, rfl, ⟨by omega, by omega⟩, D7, B15, FA, FP⟩
            case measure => simp [intOf]; omega
    have q1 : decide (x.f0 = 1) = true := decide_eq_true k1
    have q1' : (x.f0 == 1) = true := by simp [k1]
    clear k1
    obtain ⟨⟨s1, made, er⟩, hs⟩ : ∃ p, s.hearP (⟨x.f2.f0, x.f2.f1, x.f2.f2, x.f2.f3, x.f2.f4, x.f2.f5⟩ : L) = p := ⟨_, rfl⟩
    have hI := inv_hear IV.out (⟨x.f2.f0, x.f2.f1, x.f2.f2, x.f2.f3, x.f2.f4, x.f2.f5⟩ : L)
    rw [hs] at hI
    dsimp only at hI
    have HS := Aside0.mk hs
    have HI := Aside0.mk hI
    clear hs hI
    have IV1 := Aside0.mk HI.out.1
    have FL := Aside0.mk HI.out.2.1
    have MD := Aside0.mk (fun h => (HI.out.2.2.1 h).1)
    have VK0 := Aside0.mk (show ∀ a ∈ l, Valid a ∧ a.s ≤ s1.floor ∧ (made = true → a.s < s1.floor) from fun a h => ⟨(VK.out a h).1, Int.le_trans (VK.out a h).2 HI.out.2.1, fun m => Int.lt_of_le_of_lt (VK.out a h).2 (HI.out.2.2.1 m).2⟩)
    by_cases ce : er = 0
    rotate_left
    · have q2 : decide (er = 0) = false := decide_eq_false ce
      have q2' : (er == 0) = false := by simp [ce]
      go_upto_region 25 with (
        first
        | ((with_reducible refine gate_callee (f := 18) rfl ?_); refine goesL_ (some 64) rfl rfl Try.func18 (by kernel_rfl) rfl #[.pointer (some ⟨g, 0, none⟩), .agg #[.int .i64 x.f2.f0, .int .i64 x.f2.f1, .int .i64 x.f2.f2, .bool x.f2.f3, .slice B6 x.f2.f4.length d6, .slice B7 x.f2.f5.length d7]] rfl (by (try simp only [List.map_toArray, List.map_cons, List.map_nil]); first | done | rfl | (simp only [List.length_drop, List.length_take]; rfl)) ?_; refine (@hearP_calls (ZI (.slice A8 l.length c8)) g s (⟨x.f2.f0, x.f2.f1, x.f2.f2, x.f2.f3, x.f2.f4, x.f2.f5⟩ : L) _ _ _ D.out.O (RX.out.below D.out.HB).A (RX.out.below D.out.HB).P (by have := IV.out.la; omega) (by have := IV.out.lp; omega) GX.out IV.out.g).mono ?_; rintro e wk ⟨rfl, hO, hM⟩; refine ⟨_, rfl, ?_⟩; simp only [HS.out] at hO ⊢; have DK := Aside0.mk (D.out.mut hM hO); have B13 := Aside0.mk ((hM.k.2 b11 (blk_lt B12.out) GB.out (by simp)).trans B12.out); clear hO hM; clear x0 x1 x2 x3 x4 x5 x6 x7 xf0 xf1 xf2 xf3 xf4 xf5 xf6 xf7; have x0 : wk.cell? ⟨b11, 0, none⟩ = some (.int .i64 x.f0) := (blk_cell B13.out 0).trans rfl; have xf0 := blk_frozen B13.out 0; have x1 : wk.cell? ⟨b11, 1, none⟩ = some (.int .i64 x.f1) := (blk_cell B13.out 1).trans rfl; have xf1 := blk_frozen B13.out 1; have x2 : wk.cell? ⟨b11, 2, none⟩ = some (.int .i64 x.f2.f0) := (blk_cell B13.out 2).trans rfl; have xf2 := blk_frozen B13.out 2; have x3 : wk.cell? ⟨b11, 3, none⟩ = some (.int .i64 x.f2.f1) := (blk_cell B13.out 3).trans rfl; have xf3 := blk_frozen B13.out 3; have x4 : wk.cell? ⟨b11, 4, none⟩ = some (.int .i64 x.f2.f2) := (blk_cell B13.out 4).trans rfl; have xf4 := blk_frozen B13.out 4; have x5 : wk.cell? ⟨b11, 5, none⟩ = some (.bool x.f2.f3) := (blk_cell B13.out 5).trans rfl; have xf5 := blk_frozen B13.out 5; have x6 : wk.cell? ⟨b11, 6, none⟩ = some (.slice B6 x.f2.f4.length d6) := (blk_cell B13.out 6).trans rfl; have xf6 := blk_frozen B13.out 6; have x7 : wk.cell? ⟨b11, 7, none⟩ = some (.slice B7 x.f2.f5.length d7) := (blk_cell B13.out 7).trans rfl; have xf7 := blk_frozen B13.out 7))
      have VK1 := Aside0.mk VK0.out
      have HL1 := Aside0.mk (show (l.length : Int) ≤ 2 * i + 1 by have := HL.out; omega)
      clear HS HI VK0 B13 x0 x1 x2 x3 x4 x5 x6 x7 xf0 xf1 xf2 xf3 xf4 xf5 xf6 xf7
      obtain ⟨ov, adj, pre, nd, fl, ag, cu⟩ := s1
      obtain rfl : n = nd := IV1.out.node.symm
      have qf : decide (fl < s.floor) = false := decide_eq_false (by have h : s.floor ≤ fl := FL.out; omega)
      cases cu with
      | false =>
        obtain rfl : made = false := by
          cases made with
          | false => rfl
          | true => exact absurd (MD.out rfl) (by simp)
        go_upto_region 26 with (
          first
          | ((with_reducible refine gate_callee (f := 12) rfl ?_); refine goesL_ (some 76) rfl rfl Try.func12 (by kernel_rfl) rfl #[.pointer (some ⟨g, 0, none⟩)] rfl (by (try simp only [List.map_toArray, List.map_cons, List.map_nil]); first | done | rfl | (simp only [List.length_drop, List.length_take]; rfl)) ?_; refine (@current_none (ZI (.slice A8 l.length c8)) g ⟨ov, adj, pre, n, fl, ag, false⟩ _ DK.out.O rfl).mono ?_; rintro e w5 ⟨rfl, hb⟩; refine ⟨_, rfl, ?_⟩; have D5 := Aside0.mk (DK.out.below hb); clear hb)
          | ((with_reducible refine gate_dst (N := 14) rfl ?_); refine box_event ?hg (N := 14) ?hd (cs := #[.int .i64 0, .int .i64 0, .int .i64 0, .bool false, .slice none 0 0, .slice none 0 0]) (t := 32) ?hr ?_; (case hd => rfl); (case hg => rfl); (case hr => first | (go_simp; done) | (go_simp; rfl)); intro b14 hg w6 hbox hb; have B14 := Aside0.mk hbox; have G14 := Aside0.mk (Nat.le_of_eq hg.symm); have HB14 := Aside0.mk hb; have z0 : w6.cell? ⟨b14, 0, none⟩ = some (.int .i64 0) := (blk_cell B14.out 0).trans rfl; have zf0 := blk_frozen B14.out 0; have z1 : w6.cell? ⟨b14, 1, none⟩ = some (.int .i64 0) := (blk_cell B14.out 1).trans rfl; have zf1 := blk_frozen B14.out 1; have z2 : w6.cell? ⟨b14, 2, none⟩ = some (.int .i64 0) := (blk_cell B14.out 2).trans rfl; have zf2 := blk_frozen B14.out 2; have z3 : w6.cell? ⟨b14, 3, none⟩ = some (.bool false) := (blk_cell B14.out 3).trans rfl; have zf3 := blk_frozen B14.out 3; have z4 : w6.cell? ⟨b14, 4, none⟩ = some (.slice none 0 0) := (blk_cell B14.out 4).trans rfl; have zf4 := blk_frozen B14.out 4; have z5 : w6.cell? ⟨b14, 5, none⟩ = some (.slice none 0 0) := (blk_cell B14.out 5).trans rfl; have zf5 := blk_frozen B14.out 5; clear hbox hb hg))
        have B15 := Aside0.mk (blk_put (cs' := #[.int .i64 0, .int .i64 0, .int .i64 0, .bool false, .slice none 0 0, .slice none 0 0]) (blk_put (cs' := #[.int .i64 0, .int .i64 0, .int .i64 0, .bool false, .slice none 0 0, .slice none 0 0]) (blk_put (cs' := #[.int .i64 0, .int .i64 0, .int .i64 0, .bool false, .slice none 0 0, .slice none 0 0]) (blk_put (cs' := #[.int .i64 0, .int .i64 0, .int .i64 0, .bool false, .slice none 0 0, .slice none 0 0]) (blk_put (cs' := #[.int .i64 0, .int .i64 0, .int .i64 0, .bool false, .slice none 0 0, .slice none 0 0]) (blk_put (cs' := #[.int .i64 0, .int .i64 0, .int .i64 0, .bool false, .slice none 0 0, .slice none 0 0]) B14.out 0 (.int .i64 0) rfl) 1 (.int .i64 0) rfl) 2 (.int .i64 0) rfl) 3 (.bool false) rfl) 4 (.slice none 0 0) rfl) 5 (.slice none 0 0) rfl)
        have HB15 := Aside0.mk (below_set (below_set (below_set (below_set (below_set (below_set HB14.out G14.out (j := 0) (v := .int .i64 0)) G14.out (j := 1) (v := .int .i64 0)) G14.out (j := 2) (v := .int .i64 0)) G14.out (j := 3) (v := .bool false)) G14.out (j := 4) (v := .slice none 0 0)) G14.out (j := 5) (v := .slice none 0 0))
        clear B14 HB14 G14 z0 z1 z2 z3 z4 z5 zf0 zf1 zf2 zf3 zf4 zf5
        generalize ((((((w6.setCell ⟨b14, 0, none⟩ (.int .i64 0)).setCell ⟨b14, 1, none⟩ (.int .i64 0)).setCell ⟨b14, 2, none⟩ (.int .i64 0)).setCell ⟨b14, 3, none⟩ (.bool false)).setCell ⟨b14, 4, none⟩ (.slice none 0 0)).setCell ⟨b14, 5, none⟩ (.slice none 0 0)) = w7 at B15 HB15 ⊢
        have D7 := Aside0.mk (D5.out.below HB15.out)
        clear D5 HB15 DK
        refine start_ (n := 32) (S := fun w' => w'.cell? ⟨b14, 0, none⟩ = some (.int .i64 0) ∧ w'.cell? ⟨b14, 1, none⟩ = some (.int .i64 0) ∧ w'.cell? ⟨b14, 2, none⟩ = some (.int .i64 0) ∧ w'.cell? ⟨b14, 3, none⟩ = some (.bool false) ∧ w'.cell? ⟨b14, 4, none⟩ = some (.slice none 0 0) ∧ w'.cell? ⟨b14, 5, none⟩ = some (.slice none 0 0)) (ds := []) #[false, false, false, false, false, false, false, false, false, false, false, false, false, false, false, false, false, false, false, false, false, false, false, false, false, false, false, false, false, false, false, false] (by kernel_rfl) rfl rfl ⟨(blk_cell B15.out 0).trans rfl, (blk_cell B15.out 1).trans rfl, (blk_cell B15.out 2).trans rfl, (blk_cell B15.out 3).trans rfl, (blk_cell B15.out 4).trans rfl, (blk_cell B15.out 5).trans rfl⟩ (fun hHeld => ?_); refine with_tabW gg.tab26 gg.bits26 (fun HT_ HW_ => ?_)
        replace D7 := Aside0.mk (D7.out.below (below_drew (Below.refl _ _)))
        replace B15 := Aside0.mk (blk_below B15.out (below_drew (Below.refl _ _)))
        generalize w7.drew = w8 at D7 B15 hHeld ⊢
        refine pz 0 79 HT_ rfl rfl (by kernel_rfl) (fun _ _ _ h => h) (Or.inl ⟨by rfl, by intro w'; go_simp; with_reducible rfl⟩) (by simp only [Act.put, List.setIfInBounds_toArray, List.set_cons_zero, List.set_cons_succ, i64_w, i32_w]; rfl) ?_
        refine pz 2 81 HT_ rfl rfl (by kernel_rfl) (fun _ _ _ h => h) (Or.inl ⟨by rfl, by intro w'; go_simp; with_reducible rfl⟩) (by simp only [Act.put, List.setIfInBounds_toArray, List.set_cons_zero, List.set_cons_succ, i64_w, i32_w]; rfl) ?_
        refine one_ (i := 1) (N := some 80) #[true, true, true, false, false, false, false, false, false, false, false, false, false, false, false, false, false, false, false, false, false, false, false, false, false, false, false, false, false, false, false, false] rfl rfl (one_of HT_.out (by kernel_rfl)) (by decide) (fun K hK => ?_)
        refine goes_ Try.func15 (by kernel_rfl) rfl #[.pointer (some ⟨g, 0, none⟩)] (by rfl) rfl rfl (by (try simp only [List.map_toArray, List.map_cons, List.map_nil]); first | done | rfl | (simp only [List.length_drop, List.length_take]; rfl)) ?_
        refine (@floor_calls (ZI (.slice A8 l.length c8)) g ⟨ov, adj, pre, n, fl, ag, false⟩ _ D7.out.O).mono ?_
        rintro e w9 ⟨rfl, hb⟩
        refine ⟨_, rfl, ?_⟩
        replace D7 := Aside0.mk (D7.out.below hb)
        replace B15 := Aside0.mk (blk_below B15.out hb)
        clear hb
        refine hK.out _ _ ⟨(blk_cell B15.out 0).trans rfl, (blk_cell B15.out 1).trans rfl, (blk_cell B15.out 2).trans rfl, (blk_cell B15.out 3).trans rfl, (blk_cell B15.out 4).trans rfl, (blk_cell B15.out 5).trans rfl⟩ (fun hHeld => ?_)
        clear hK K
        refine norm_ (a' := ?_) ?_ ?_
        rotate_left
        · show Act.put _ (some 80) _ = _
          simp only [Act.put, List.setIfInBounds_toArray, List.set_cons_zero, List.set_cons_succ, i64_w, i32_w]
          rfl
        refine pz 3 82 HT_ rfl rfl (by kernel_rfl) (fun _ _ _ h => h) (Or.inl ⟨by rfl, by intro w'; go_simp; with_reducible rfl⟩) (by simp only [Act.put, List.setIfInBounds_toArray, List.set_cons_zero, List.set_cons_succ, i64_w, i32_w]; rfl) ?_
        try rw [qf]
        refine pz 4 83 HT_ rfl rfl (by kernel_rfl) (fun _ _ _ h => h) (Or.inl ⟨by rfl, by intro w'; go_simp; with_reducible rfl⟩) (by simp only [Act.put, List.setIfInBounds_toArray, List.set_cons_zero, List.set_cons_succ, i64_w, i32_w]; rfl) ?_
        refine pz 5 84 HT_ rfl rfl (by kernel_rfl) (fun _ _ _ h => h) (Or.inl ⟨by rfl, by intro w'; go_simp; with_reducible rfl⟩) (by simp only [Act.put, List.setIfInBounds_toArray, List.set_cons_zero, List.set_cons_succ, i64_w, i32_w]; rfl) ?_
        refine pz 6 85 HT_ rfl rfl (by kernel_rfl) (fun _ _ _ h => h) (Or.inl ⟨by rfl, by intro w'; go_simp; with_reducible rfl⟩) (by simp only [Act.put, List.setIfInBounds_toArray, List.set_cons_zero, List.set_cons_succ, i64_w, i32_w]; rfl) ?_
        refine pz (v := undef) 7 86 HT_ rfl rfl (by kernel_rfl) (fun _ _ _ h => h) (Or.inr ⟨by rfl, rfl⟩) (by simp only [Act.put, List.setIfInBounds_toArray, List.set_cons_zero, List.set_cons_succ, i64_w, i32_w]; rfl) ?_
        refine pz (v := undef) 8 87 HT_ rfl rfl (by kernel_rfl) (fun _ _ _ h => h) (Or.inr ⟨by rfl, rfl⟩) (by simp only [Act.put, List.setIfInBounds_toArray, List.set_cons_zero, List.set_cons_succ, i64_w, i32_w]; rfl) ?_
        refine pz 9 88 HT_ rfl rfl (by kernel_rfl) (fun _ _ _ h => h) (Or.inl ⟨by rfl, by intro w'; go_simp; with_reducible rfl⟩) (by simp only [Act.put, List.setIfInBounds_toArray, List.set_cons_zero, List.set_cons_succ, i64_w, i32_w]; rfl) ?_
        refine pz 10 89 HT_ rfl rfl (by kernel_rfl) (fun _ _ _ h => h) (Or.inl ⟨by rfl, by intro w'; go_simp; with_reducible rfl⟩) (by simp only [Act.put, List.setIfInBounds_toArray, List.set_cons_zero, List.set_cons_succ, i64_w, i32_w]; rfl) ?_
        refine pz 11 90 HT_ rfl rfl (by kernel_rfl) (fun _ _ _ h => h) (Or.inl ⟨by rfl, by intro w'; go_simp; with_reducible rfl⟩) (by simp only [Act.put, List.setIfInBounds_toArray, List.set_cons_zero, List.set_cons_succ, i64_w, i32_w]; rfl) ?_
        refine pz 12 91 HT_ rfl rfl (by kernel_rfl) (fun _ _ _ h => h) (Or.inl ⟨by rfl, by intro w'; go_simp; with_reducible rfl⟩) (by simp only [Act.put, List.setIfInBounds_toArray, List.set_cons_zero, List.set_cons_succ, i64_w, i32_w]; rfl) ?_
        refine pz 13 92 HT_ rfl rfl (by kernel_rfl) (fun _ _ _ h => h) (Or.inl ⟨by rfl, by intro w'; go_simp; with_reducible rfl⟩) (by simp only [Act.put, List.setIfInBounds_toArray, List.set_cons_zero, List.set_cons_succ, i64_w, i32_w]; rfl) ?_
        refine pz (v := undef) 14 93 HT_ rfl rfl (by kernel_rfl) (fun _ _ _ h => h) (Or.inr ⟨by rfl, rfl⟩) (by simp only [Act.put, List.setIfInBounds_toArray, List.set_cons_zero, List.set_cons_succ, i64_w, i32_w]; rfl) ?_
        refine pz (v := undef) 15 94 HT_ rfl rfl (by kernel_rfl) (fun _ _ _ h => h) (Or.inr ⟨by rfl, rfl⟩) (by simp only [Act.put, List.setIfInBounds_toArray, List.set_cons_zero, List.set_cons_succ, i64_w, i32_w]; rfl) ?_
        refine pz (v := undef) 16 95 HT_ rfl rfl (by kernel_rfl) (fun _ _ _ h => h) (Or.inr ⟨by rfl, rfl⟩) (by simp only [Act.put, List.setIfInBounds_toArray, List.set_cons_zero, List.set_cons_succ, i64_w, i32_w]; rfl) ?_
        refine pz (v := undef) 17 96 HT_ rfl rfl (by kernel_rfl) (fun _ _ _ h => h) (Or.inr ⟨by rfl, rfl⟩) (by simp only [Act.put, List.setIfInBounds_toArray, List.set_cons_zero, List.set_cons_succ, i64_w, i32_w]; rfl) ?_
        refine pz (v := undef) 18 97 HT_ rfl rfl (by kernel_rfl) (fun _ _ _ h => h) (Or.inr ⟨by rfl, rfl⟩) (by simp only [Act.put, List.setIfInBounds_toArray, List.set_cons_zero, List.set_cons_succ, i64_w, i32_w]; rfl) ?_
        refine pz (v := undef) 19 98 HT_ rfl rfl (by kernel_rfl) (fun _ _ _ h => h) (Or.inr ⟨by rfl, rfl⟩) (by simp only [Act.put, List.setIfInBounds_toArray, List.set_cons_zero, List.set_cons_succ, i64_w, i32_w]; rfl) ?_
        refine pz (v := undef) 20 99 HT_ rfl rfl (by kernel_rfl) (fun _ _ _ h => h) (Or.inr ⟨by rfl, rfl⟩) (by simp only [Act.put, List.setIfInBounds_toArray, List.set_cons_zero, List.set_cons_succ, i64_w, i32_w]; rfl) ?_
        refine pz (v := undef) 21 100 HT_ rfl rfl (by kernel_rfl) (fun _ _ _ h => h) (Or.inr ⟨by rfl, rfl⟩) (by simp only [Act.put, List.setIfInBounds_toArray, List.set_cons_zero, List.set_cons_succ, i64_w, i32_w]; rfl) ?_
        refine pz (v := undef) 22 101 HT_ rfl rfl (by kernel_rfl) (fun _ _ _ h => h) (Or.inr ⟨by rfl, rfl⟩) (by simp only [Act.put, List.setIfInBounds_toArray, List.set_cons_zero, List.set_cons_succ, i64_w, i32_w]; rfl) ?_
        refine pz (v := undef) 23 102 HT_ rfl rfl (by kernel_rfl) (fun _ _ _ h => h) (Or.inr ⟨by rfl, rfl⟩) (by simp only [Act.put, List.setIfInBounds_toArray, List.set_cons_zero, List.set_cons_succ, i64_w, i32_w]; rfl) ?_
        refine pz (v := undef) 24 103 HT_ rfl rfl (by kernel_rfl) (fun _ _ _ h => h) (Or.inr ⟨by rfl, rfl⟩) (by simp only [Act.put, List.setIfInBounds_toArray, List.set_cons_zero, List.set_cons_succ, i64_w, i32_w]; rfl) ?_
        refine pz (v := undef) 25 104 HT_ rfl rfl (by kernel_rfl) (fun _ _ _ h => h) (Or.inr ⟨by rfl, rfl⟩) (by simp only [Act.put, List.setIfInBounds_toArray, List.set_cons_zero, List.set_cons_succ, i64_w, i32_w]; rfl) ?_
        refine pz (v := undef) 26 105 HT_ rfl rfl (by kernel_rfl) (fun _ _ _ h => h) (Or.inr ⟨by rfl, rfl⟩) (by simp only [Act.put, List.setIfInBounds_toArray, List.set_cons_zero, List.set_cons_succ, i64_w, i32_w]; rfl) ?_
        refine pz (v := undef) 27 106 HT_ rfl rfl (by kernel_rfl) (fun _ _ _ h => h) (Or.inr ⟨by rfl, rfl⟩) (by simp only [Act.put, List.setIfInBounds_toArray, List.set_cons_zero, List.set_cons_succ, i64_w, i32_w]; rfl) ?_
        refine pz (v := undef) 28 107 HT_ rfl rfl (by kernel_rfl) (fun _ _ _ h => h) (Or.inr ⟨by rfl, rfl⟩) (by simp only [Act.put, List.setIfInBounds_toArray, List.set_cons_zero, List.set_cons_succ, i64_w, i32_w]; rfl) ?_
        refine pz (v := undef) 29 108 HT_ rfl rfl (by kernel_rfl) (fun _ _ _ h => h) (Or.inr ⟨by rfl, rfl⟩) (by simp only [Act.put, List.setIfInBounds_toArray, List.set_cons_zero, List.set_cons_succ, i64_w, i32_w]; rfl) ?_
        refine pz 30 109 HT_ rfl rfl (by kernel_rfl) (fun _ _ _ h => h) (Or.inl ⟨by rfl, by intro w'; go_simp; with_reducible rfl⟩) (by simp only [Act.put, List.setIfInBounds_toArray, List.set_cons_zero, List.set_cons_succ, i64_w, i32_w]; rfl) ?_
        refine pz 31 110 HT_ rfl rfl (by kernel_rfl) (fun _ _ _ h => h) (Or.inl ⟨by rfl, by intro w'; go_simp; with_reducible rfl⟩) (by simp only [Act.put, List.setIfInBounds_toArray, List.set_cons_zero, List.set_cons_succ, i64_w, i32_w]; rfl) ?_
        refine done_ (done_of HT_.out (by kernel_rfl)) ?_
        clear HT_ HW_ hHeld
        go_wp2_with (
          first
          | ((with_reducible refine gate_callee (f := 15) rfl ?_); refine goesL_ (some 112) rfl rfl Try.func15 (by kernel_rfl) rfl #[.pointer (some ⟨g, 0, none⟩)] rfl (by (try simp only [List.map_toArray, List.map_cons, List.map_nil]); first | done | rfl | (simp only [List.length_drop, List.length_take]; rfl)) ?_; refine (@floor_calls (ZI (.slice A8 l.length c8)) g ⟨ov, adj, pre, n, fl, ag, false⟩ _ D7.out.O).mono ?_; rintro e w13 ⟨rfl, hb⟩; refine ⟨_, rfl, ?_⟩; replace D7 := Aside0.mk (D7.out.below hb); replace B15 := Aside0.mk (blk_below B15.out hb); clear hb))
        go_loopw [16] (fun v16 wr => ∃ k : Int, v16 = .int .i64 k ∧ Aside0 (0 ≤ k ∧ k ≤ l.length) ∧ Aside0 (GW w g wr ⟨ov, adj, pre, n, fl, ag, false⟩ (.slice A8 l.length c8) l) ∧ Aside0 (wr.heap[b14]? = some (.cells #[.int .i64 0, .int .i64 0, .int .i64 0, .bool false, .slice none 0 0, .slice none 0 0] 32 (0, 0)))) (fun v16 _ => ((l.length : Int) - intOf v16).toNat)
        case atStart => exact ⟨0, rfl, ⟨by omega, by omega⟩, D7, B15⟩
        case round =>
          clear D7 B15
          obtain ⟨k, rfl, hk, D7, B15⟩ := hrel
          have k0 := hk.out.1
          have k1 := hk.out.2
          have z0 : (_ : World).cell? ⟨b14, 0, none⟩ = some (.int .i64 0) := (blk_cell B15.out 0).trans rfl; have zf0 := blk_frozen B15.out 0; have z1 : (_ : World).cell? ⟨b14, 1, none⟩ = some (.int .i64 0) := (blk_cell B15.out 1).trans rfl; have zf1 := blk_frozen B15.out 1; have z2 : (_ : World).cell? ⟨b14, 2, none⟩ = some (.int .i64 0) := (blk_cell B15.out 2).trans rfl; have zf2 := blk_frozen B15.out 2; have z3 : (_ : World).cell? ⟨b14, 3, none⟩ = some (.bool false) := (blk_cell B15.out 3).trans rfl; have zf3 := blk_frozen B15.out 3; have z4 : (_ : World).cell? ⟨b14, 4, none⟩ = some (.slice none 0 0) := (blk_cell B15.out 4).trans rfl; have zf4 := blk_frozen B15.out 4; have z5 : (_ : World).cell? ⟨b14, 5, none⟩ = some (.slice none 0 0) := (blk_cell B15.out 5).trans rfl; have zf5 := blk_frozen B15.out 5
          by_cases ck : k < (l.length : Int)
          rotate_left
          · go_wp2_with fail
            go_roundw
            case rel => exact ⟨_, i + 1, _, rfl, rfl, ⟨by omega, by omega⟩, IV1, ⟨fun a h => ⟨(VK1.out a h).1, (VK1.out a h).2.1⟩⟩, ⟨by have := HL1.out; omega⟩, D7⟩
            case measure => simp [intOf]; omega
          · go_wp2_with fail
            go_roundw
            case rel => exact ⟨_, i + 1, _, rfl, rfl, ⟨by omega, by omega⟩, IV1, ⟨fun a h => ⟨(VK1.out a h).1, (VK1.out a h).2.1⟩⟩, ⟨by have := HL1.out; omega⟩, D7⟩
            case measure => simp [intOf]; omega
      | true =>
        have HV := Aside0.mk (show Valid (⟨n, fl, ag, ov, adj, pre⟩ : L) from IV1.out.valid rfl)
        have VG := Aside0.mk (show G32 pre from IV1.out.g)
        have la := Aside0.mk (show adj.length ≤ 300 from IV1.out.la)
        have lp := Aside0.mk (show pre.length ≤ 300 from IV1.out.lp)
        go_upto_region 26 with (
          first
          | ((with_reducible refine gate_callee (f := 12) rfl ?_); refine goesL_ (some 76) rfl rfl Try.func12 (by kernel_rfl) rfl #[.pointer (some ⟨g, 0, none⟩)] rfl (by (try simp only [List.map_toArray, List.map_cons, List.map_nil]); first | done | rfl | (simp only [List.length_drop, List.length_take]; rfl)) ?_; refine (@current_ft (ZI (.slice A8 l.length c8)) g ⟨ov, adj, pre, n, fl, ag, true⟩ _ DK.out.O (by have := la.out; show adj.length < _; omega) (by have := lp.out; show pre.length < _; omega) rfl).mono ?_; rintro e w5 ⟨r1, r2, rfl, hA, hP, hb⟩; refine ⟨_, rfl, ?_⟩; have FA0 := Aside0.mk hA; have FP0 := Aside0.mk hP; obtain ⟨_, P1, p1, rfl, _, _⟩ := hA; obtain ⟨_, P2, p2, rfl, _, _⟩ := hP; have D5 := Aside0.mk (DK.out.below hb); clear hb; dsimp only [LSAv])
          | ((with_reducible refine gate_dst (N := 14) rfl ?_); refine box_event ?hg (N := 14) ?hd (cs := #[.int .i64 0, .int .i64 0, .int .i64 0, .bool false, .slice none 0 0, .slice none 0 0]) (t := 32) ?hr ?_; (case hd => rfl); (case hg => rfl); (case hr => first | (go_simp; done) | (go_simp; rfl)); intro b14 hg w6 hbox hb; have B14 := Aside0.mk hbox; have G14 := Aside0.mk (Nat.le_of_eq hg.symm); have HB14 := Aside0.mk hb; have z0 : w6.cell? ⟨b14, 0, none⟩ = some (.int .i64 0) := (blk_cell B14.out 0).trans rfl; have zf0 := blk_frozen B14.out 0; have z1 : w6.cell? ⟨b14, 1, none⟩ = some (.int .i64 0) := (blk_cell B14.out 1).trans rfl; have zf1 := blk_frozen B14.out 1; have z2 : w6.cell? ⟨b14, 2, none⟩ = some (.int .i64 0) := (blk_cell B14.out 2).trans rfl; have zf2 := blk_frozen B14.out 2; have z3 : w6.cell? ⟨b14, 3, none⟩ = some (.bool false) := (blk_cell B14.out 3).trans rfl; have zf3 := blk_frozen B14.out 3; have z4 : w6.cell? ⟨b14, 4, none⟩ = some (.slice none 0 0) := (blk_cell B14.out 4).trans rfl; have zf4 := blk_frozen B14.out 4; have z5 : w6.cell? ⟨b14, 5, none⟩ = some (.slice none 0 0) := (blk_cell B14.out 5).trans rfl; have zf5 := blk_frozen B14.out 5; clear hbox hb hg))
        have B15 := Aside0.mk (blk_put (cs' := #[.int .i64 n, .int .i64 fl, .int .i64 ag, .bool ov, .slice P1 adj.length p1, .slice P2 pre.length p2]) (blk_put (cs' := #[.int .i64 n, .int .i64 fl, .int .i64 ag, .bool ov, .slice P1 adj.length p1, .slice none 0 0]) (blk_put (cs' := #[.int .i64 n, .int .i64 fl, .int .i64 ag, .bool ov, .slice none 0 0, .slice none 0 0]) (blk_put (cs' := #[.int .i64 n, .int .i64 fl, .int .i64 ag, .bool false, .slice none 0 0, .slice none 0 0]) (blk_put (cs' := #[.int .i64 n, .int .i64 fl, .int .i64 0, .bool false, .slice none 0 0, .slice none 0 0]) (blk_put (cs' := #[.int .i64 n, .int .i64 0, .int .i64 0, .bool false, .slice none 0 0, .slice none 0 0]) B14.out 0 (.int .i64 n) rfl) 1 (.int .i64 fl) rfl) 2 (.int .i64 ag) rfl) 3 (.bool ov) rfl) 4 (.slice P1 adj.length p1) rfl) 5 (.slice P2 pre.length p2) rfl)
        have HB15 := Aside0.mk (below_set (below_set (below_set (below_set (below_set (below_set HB14.out G14.out (j := 0) (v := .int .i64 n)) G14.out (j := 1) (v := .int .i64 fl)) G14.out (j := 2) (v := .int .i64 ag)) G14.out (j := 3) (v := .bool ov)) G14.out (j := 4) (v := .slice P1 adj.length p1)) G14.out (j := 5) (v := .slice P2 pre.length p2))
        clear B14 HB14 G14 z0 z1 z2 z3 z4 z5 zf0 zf1 zf2 zf3 zf4 zf5
        generalize ((((((w6.setCell ⟨b14, 0, none⟩ (.int .i64 n)).setCell ⟨b14, 1, none⟩ (.int .i64 fl)).setCell ⟨b14, 2, none⟩ (.int .i64 ag)).setCell ⟨b14, 3, none⟩ (.bool ov)).setCell ⟨b14, 4, none⟩ (.slice P1 adj.length p1)).setCell ⟨b14, 5, none⟩ (.slice P2 pre.length p2)) = w7 at B15 HB15 ⊢
        have D7 := Aside0.mk (D5.out.below HB15.out)
        have FA := Aside0.mk (ftA_keep FA0.out (KeepBut.of_below HB15.out g none))
        have FP := Aside0.mk (ftP_keep FP0.out (KeepBut.of_below HB15.out g none))
        clear D5 HB15 FA0 FP0 DK
        cases made with
        | false =>
          refine start_ (n := 32) (S := fun w' => w'.cell? ⟨b14, 0, none⟩ = some (.int .i64 n) ∧ w'.cell? ⟨b14, 1, none⟩ = some (.int .i64 fl) ∧ w'.cell? ⟨b14, 2, none⟩ = some (.int .i64 ag) ∧ w'.cell? ⟨b14, 3, none⟩ = some (.bool ov) ∧ w'.cell? ⟨b14, 4, none⟩ = some (.slice P1 adj.length p1) ∧ w'.cell? ⟨b14, 5, none⟩ = some (.slice P2 pre.length p2)) (ds := []) #[false, false, false, false, false, false, false, false, false, false, false, false, false, false, false, false, false, false, false, false, false, false, false, false, false, false, false, false, false, false, false, false] (by kernel_rfl) rfl rfl ⟨(blk_cell B15.out 0).trans rfl, (blk_cell B15.out 1).trans rfl, (blk_cell B15.out 2).trans rfl, (blk_cell B15.out 3).trans rfl, (blk_cell B15.out 4).trans rfl, (blk_cell B15.out 5).trans rfl⟩ (fun hHeld => ?_); refine with_tabW gg.tab26 gg.bits26 (fun HT_ HW_ => ?_)
          replace D7 := Aside0.mk (D7.out.below (below_drew (Below.refl _ _)))
          replace FA := Aside0.mk (ftA_keep FA.out (KeepBut.of_below (below_drew (Below.refl _ _)) g none))
          replace FP := Aside0.mk (ftP_keep FP.out (KeepBut.of_below (below_drew (Below.refl _ _)) g none))
          replace B15 := Aside0.mk (blk_below B15.out (below_drew (Below.refl _ _)))
          generalize w7.drew = w8 at D7 B15 FA FP hHeld ⊢
          refine pz 0 79 HT_ rfl rfl (by kernel_rfl) (fun _ _ _ h => h) (Or.inl ⟨by rfl, by intro w'; go_simp; with_reducible rfl⟩) (by simp only [Act.put, List.setIfInBounds_toArray, List.set_cons_zero, List.set_cons_succ, i64_w, i32_w]; rfl) ?_
          refine pz 2 81 HT_ rfl rfl (by kernel_rfl) (fun _ _ _ h => h) (Or.inl ⟨by rfl, by intro w'; go_simp; with_reducible rfl⟩) (by simp only [Act.put, List.setIfInBounds_toArray, List.set_cons_zero, List.set_cons_succ, i64_w, i32_w]; rfl) ?_
          refine one_ (i := 1) (N := some 80) #[true, true, true, false, false, false, false, false, false, false, false, false, false, false, false, false, false, false, false, false, false, false, false, false, false, false, false, false, false, false, false, false] rfl rfl (one_of HT_.out (by kernel_rfl)) (by decide) (fun K hK => ?_)
          refine goes_ Try.func15 (by kernel_rfl) rfl #[.pointer (some ⟨g, 0, none⟩)] (by rfl) rfl rfl (by (try simp only [List.map_toArray, List.map_cons, List.map_nil]); first | done | rfl | (simp only [List.length_drop, List.length_take]; rfl)) ?_
          refine (@floor_calls (ZI (.slice A8 l.length c8)) g ⟨ov, adj, pre, n, fl, ag, true⟩ _ D7.out.O).mono ?_
          rintro e w9 ⟨rfl, hb⟩
          refine ⟨_, rfl, ?_⟩
          replace D7 := Aside0.mk (D7.out.below hb)
          replace FA := Aside0.mk (ftA_keep FA.out (KeepBut.of_below hb g none))
          replace FP := Aside0.mk (ftP_keep FP.out (KeepBut.of_below hb g none))
          replace B15 := Aside0.mk (blk_below B15.out hb)
          clear hb
          refine hK.out _ _ ⟨(blk_cell B15.out 0).trans rfl, (blk_cell B15.out 1).trans rfl, (blk_cell B15.out 2).trans rfl, (blk_cell B15.out 3).trans rfl, (blk_cell B15.out 4).trans rfl, (blk_cell B15.out 5).trans rfl⟩ (fun hHeld => ?_)
          clear hK K
          refine norm_ (a' := ?_) ?_ ?_
          rotate_left
          · show Act.put _ (some 80) _ = _
            simp only [Act.put, List.setIfInBounds_toArray, List.set_cons_zero, List.set_cons_succ, i64_w, i32_w]
            rfl
          refine pz 3 82 HT_ rfl rfl (by kernel_rfl) (fun _ _ _ h => h) (Or.inl ⟨by rfl, by intro w'; go_simp; with_reducible rfl⟩) (by simp only [Act.put, List.setIfInBounds_toArray, List.set_cons_zero, List.set_cons_succ, i64_w, i32_w]; rfl) ?_
          try rw [qf]
          refine pz 4 83 HT_ rfl rfl (by kernel_rfl) (fun _ _ _ h => h) (Or.inl ⟨by rfl, by intro w'; go_simp; with_reducible rfl⟩) (by simp only [Act.put, List.setIfInBounds_toArray, List.set_cons_zero, List.set_cons_succ, i64_w, i32_w]; rfl) ?_
          refine pz 5 84 HT_ rfl rfl (by kernel_rfl) (fun _ _ _ h => h) (Or.inl ⟨by rfl, by intro w'; go_simp; with_reducible rfl⟩) (by simp only [Act.put, List.setIfInBounds_toArray, List.set_cons_zero, List.set_cons_succ, i64_w, i32_w]; rfl) ?_
          refine pz 6 85 HT_ rfl rfl (by kernel_rfl) (fun _ _ _ h => h) (Or.inl ⟨by rfl, by intro w'; go_simp; with_reducible rfl⟩) (by simp only [Act.put, List.setIfInBounds_toArray, List.set_cons_zero, List.set_cons_succ, i64_w, i32_w]; rfl) ?_
          refine pz (v := undef) 7 86 HT_ rfl rfl (by kernel_rfl) (fun _ _ _ h => h) (Or.inr ⟨by rfl, rfl⟩) (by simp only [Act.put, List.setIfInBounds_toArray, List.set_cons_zero, List.set_cons_succ, i64_w, i32_w]; rfl) ?_
          refine pz (v := undef) 8 87 HT_ rfl rfl (by kernel_rfl) (fun _ _ _ h => h) (Or.inr ⟨by rfl, rfl⟩) (by simp only [Act.put, List.setIfInBounds_toArray, List.set_cons_zero, List.set_cons_succ, i64_w, i32_w]; rfl) ?_
          refine pz 9 88 HT_ rfl rfl (by kernel_rfl) (fun _ _ _ h => h) (Or.inl ⟨by rfl, by intro w'; go_simp; with_reducible rfl⟩) (by simp only [Act.put, List.setIfInBounds_toArray, List.set_cons_zero, List.set_cons_succ, i64_w, i32_w]; rfl) ?_
          refine pz 10 89 HT_ rfl rfl (by kernel_rfl) (fun _ _ _ h => h) (Or.inl ⟨by rfl, by intro w'; go_simp; with_reducible rfl⟩) (by simp only [Act.put, List.setIfInBounds_toArray, List.set_cons_zero, List.set_cons_succ, i64_w, i32_w]; rfl) ?_
          refine pz 11 90 HT_ rfl rfl (by kernel_rfl) (fun _ _ _ h => h) (Or.inl ⟨by rfl, by intro w'; go_simp; with_reducible rfl⟩) (by simp only [Act.put, List.setIfInBounds_toArray, List.set_cons_zero, List.set_cons_succ, i64_w, i32_w]; rfl) ?_
          refine pz 12 91 HT_ rfl rfl (by kernel_rfl) (fun _ _ _ h => h) (Or.inl ⟨by rfl, by intro w'; go_simp; with_reducible rfl⟩) (by simp only [Act.put, List.setIfInBounds_toArray, List.set_cons_zero, List.set_cons_succ, i64_w, i32_w]; rfl) ?_
          refine pz 13 92 HT_ rfl rfl (by kernel_rfl) (fun _ _ _ h => h) (Or.inl ⟨by rfl, by intro w'; go_simp; with_reducible rfl⟩) (by simp only [Act.put, List.setIfInBounds_toArray, List.set_cons_zero, List.set_cons_succ, i64_w, i32_w]; rfl) ?_
          refine tz 14 93 HT_ HW_ rfl rfl (by kernel_rfl) (fun _ _ _ h => h) (Or.inl ⟨by rfl, by rintro w' ⟨s0, s1, s2, s3, s4, s5⟩; go_simp; with_reducible rfl⟩) hHeld (by simp only [Act.put, List.setIfInBounds_toArray, List.set_cons_zero, List.set_cons_succ, i64_w, i32_w]; rfl) ?_
          refine one_ (i := 15) (N := some 94) #[true, true, true, true, true, true, true, true, true, true, true, true, true, true, true, true, false, false, false, false, false, false, false, false, false, false, false, false, false, false, false, false] rfl rfl (one_of HT_.out (by kernel_rfl)) (by decide) (fun K hK => ?_)
          refine goes_ Try.func20 (by kernel_rfl) rfl #[.agg #[.int .i64 n, .int .i64 fl, .int .i64 ag, .bool ov, .slice P1 adj.length p1, .slice P2 pre.length p2]] (by rfl) rfl rfl (by (try simp only [List.map_toArray, List.map_cons, List.map_nil]); first | done | rfl | (simp only [List.length_drop, List.length_take]; rfl)) ?_
          refine (valid_c n fl ag ov VG.out (rdl_of FA.out FP.out)).mono ?_
          rintro e w10 ⟨rfl, hb⟩
          rw [decide_eq_true HV.out]
          refine ⟨_, rfl, ?_⟩
          replace D7 := Aside0.mk (D7.out.below hb)
          replace FA := Aside0.mk (ftA_keep FA.out (KeepBut.of_below hb g none))
          replace FP := Aside0.mk (ftP_keep FP.out (KeepBut.of_below hb g none))
          replace B15 := Aside0.mk (blk_below B15.out hb)
          clear hb
          refine hK.out _ _ ⟨(blk_cell B15.out 0).trans rfl, (blk_cell B15.out 1).trans rfl, (blk_cell B15.out 2).trans rfl, (blk_cell B15.out 3).trans rfl, (blk_cell B15.out 4).trans rfl, (blk_cell B15.out 5).trans rfl⟩ (fun hHeld => ?_)
          clear hK K
          refine norm_ (a' := ?_) ?_ ?_
          rotate_left
          · show Act.put _ (some 94) _ = _
            simp only [Act.put, List.setIfInBounds_toArray, List.set_cons_zero, List.set_cons_succ, i64_w, i32_w]
            rfl
          refine pz 16 95 HT_ rfl rfl (by kernel_rfl) (fun _ _ _ h => h) (Or.inl ⟨by rfl, by intro w'; go_simp; with_reducible rfl⟩) (by simp only [Act.put, List.setIfInBounds_toArray, List.set_cons_zero, List.set_cons_succ, i64_w, i32_w]; rfl) ?_
          refine pz 17 96 HT_ rfl rfl (by kernel_rfl) (fun _ _ _ h => h) (Or.inl ⟨by rfl, by intro w'; go_simp; with_reducible rfl⟩) (by simp only [Act.put, List.setIfInBounds_toArray, List.set_cons_zero, List.set_cons_succ, i64_w, i32_w]; rfl) ?_
          refine pz 18 97 HT_ rfl rfl (by kernel_rfl) (fun _ _ _ h => h) (Or.inl ⟨by rfl, by intro w'; go_simp; with_reducible rfl⟩) (by simp only [Act.put, List.setIfInBounds_toArray, List.set_cons_zero, List.set_cons_succ, i64_w, i32_w]; rfl) ?_
          refine pz 20 99 HT_ rfl rfl (by kernel_rfl) (fun _ _ _ h => h) (Or.inl ⟨by rfl, by intro w'; go_simp; with_reducible rfl⟩) (by simp only [Act.put, List.setIfInBounds_toArray, List.set_cons_zero, List.set_cons_succ, i64_w, i32_w]; rfl) ?_
          refine tz 19 98 HT_ HW_ rfl rfl (by kernel_rfl) (fun _ _ _ h => h) (Or.inl ⟨by rfl, by rintro w' ⟨s0, s1, s2, s3, s4, s5⟩; go_simp; with_reducible rfl⟩) hHeld (by simp only [Act.put, List.setIfInBounds_toArray, List.set_cons_zero, List.set_cons_succ, i64_w, i32_w]; rfl) ?_
          refine pz 21 100 HT_ rfl rfl (by kernel_rfl) (fun _ _ _ h => h) (Or.inl ⟨by rfl, by intro w'; go_simp; with_reducible rfl⟩) (by simp only [Act.put, List.setIfInBounds_toArray, List.set_cons_zero, List.set_cons_succ, i64_w, i32_w]; rfl) ?_
          refine pz 22 101 HT_ rfl rfl (by kernel_rfl) (fun _ _ _ h => h) (Or.inl ⟨by rfl, by intro w'; go_simp; with_reducible rfl⟩) (by simp only [Act.put, List.setIfInBounds_toArray, List.set_cons_zero, List.set_cons_succ, i64_w, i32_w]; rfl) ?_
          refine pz 23 102 HT_ rfl rfl (by kernel_rfl) (fun _ _ _ h => h) (Or.inl ⟨by rfl, by intro w'; go_simp; with_reducible rfl⟩) (by simp only [Act.put, List.setIfInBounds_toArray, List.set_cons_zero, List.set_cons_succ, i64_w, i32_w]; rfl) ?_
          refine pz 24 103 HT_ rfl rfl (by kernel_rfl) (fun _ _ _ h => h) (Or.inl ⟨by rfl, by intro w'; go_simp; with_reducible rfl⟩) (by simp only [Act.put, List.setIfInBounds_toArray, List.set_cons_zero, List.set_cons_succ, i64_w, i32_w]; rfl) ?_
          refine pz 26 105 HT_ rfl rfl (by kernel_rfl) (fun _ _ _ h => h) (Or.inl ⟨by rfl, by intro w'; go_simp; with_reducible rfl⟩) (by simp only [Act.put, List.setIfInBounds_toArray, List.set_cons_zero, List.set_cons_succ, i64_w, i32_w]; rfl) ?_
          refine tz 25 104 HT_ HW_ rfl rfl (by kernel_rfl) (fun _ _ _ h => h) (Or.inl ⟨by rfl, by rintro w' ⟨s0, s1, s2, s3, s4, s5⟩; go_simp; with_reducible rfl⟩) hHeld (by simp only [Act.put, List.setIfInBounds_toArray, List.set_cons_zero, List.set_cons_succ, i64_w, i32_w]; rfl) ?_
          refine one_ (i := 27) (N := some 106) #[true, true, true, true, true, true, true, true, true, true, true, true, true, true, true, true, true, true, true, true, true, true, true, true, true, true, true, true, false, false, false, false] rfl rfl (one_of HT_.out (by kernel_rfl)) (by decide) (fun K hK => ?_)
          refine goes_ Try.func15 (by kernel_rfl) rfl #[.pointer (some ⟨g, 0, none⟩)] (by rfl) rfl rfl (by (try simp only [List.map_toArray, List.map_cons, List.map_nil]); first | done | rfl | (simp only [List.length_drop, List.length_take]; rfl)) ?_
          refine (@floor_calls (ZI (.slice A8 l.length c8)) g ⟨ov, adj, pre, n, fl, ag, true⟩ _ D7.out.O).mono ?_
          rintro e w11 ⟨rfl, hb⟩
          refine ⟨_, rfl, ?_⟩
          replace D7 := Aside0.mk (D7.out.below hb)
          replace FA := Aside0.mk (ftA_keep FA.out (KeepBut.of_below hb g none))
          replace FP := Aside0.mk (ftP_keep FP.out (KeepBut.of_below hb g none))
          replace B15 := Aside0.mk (blk_below B15.out hb)
          clear hb
          refine hK.out _ _ ⟨(blk_cell B15.out 0).trans rfl, (blk_cell B15.out 1).trans rfl, (blk_cell B15.out 2).trans rfl, (blk_cell B15.out 3).trans rfl, (blk_cell B15.out 4).trans rfl, (blk_cell B15.out 5).trans rfl⟩ (fun hHeld => ?_)
          clear hK K
          refine norm_ (a' := ?_) ?_ ?_
          rotate_left
          · show Act.put _ (some 106) _ = _
            simp only [Act.put, List.setIfInBounds_toArray, List.set_cons_zero, List.set_cons_succ, i64_w, i32_w]
            rfl
          refine pz 28 107 HT_ rfl rfl (by kernel_rfl) (fun _ _ _ h => h) (Or.inl ⟨by rfl, by intro w'; go_simp; with_reducible rfl⟩) (by simp only [Act.put, List.setIfInBounds_toArray, List.set_cons_zero, List.set_cons_succ, i64_w, i32_w]; rfl) ?_
          refine pz 29 108 HT_ rfl rfl (by kernel_rfl) (fun _ _ _ h => h) (Or.inl ⟨by rfl, by intro w'; go_simp; with_reducible rfl⟩) (by simp only [Act.put, List.setIfInBounds_toArray, List.set_cons_zero, List.set_cons_succ, i64_w, i32_w]; rfl) ?_
          refine pz 30 109 HT_ rfl rfl (by kernel_rfl) (fun _ _ _ h => h) (Or.inl ⟨by rfl, by intro w'; go_simp; with_reducible rfl⟩) (by simp only [Act.put, List.setIfInBounds_toArray, List.set_cons_zero, List.set_cons_succ, i64_w, i32_w]; rfl) ?_
          refine pz 31 110 HT_ rfl rfl (by kernel_rfl) (fun _ _ _ h => h) (Or.inl ⟨by rfl, by intro w'; go_simp; with_reducible rfl⟩) (by simp only [Act.put, List.setIfInBounds_toArray, List.set_cons_zero, List.set_cons_succ, i64_w, i32_w]; rfl) ?_
          refine done_ (done_of HT_.out (by kernel_rfl)) ?_
          clear HT_ HW_ hHeld
          go_wp2_with (
            first
            | ((with_reducible refine gate_callee (f := 15) rfl ?_); refine goesL_ (some 112) rfl rfl Try.func15 (by kernel_rfl) rfl #[.pointer (some ⟨g, 0, none⟩)] rfl (by (try simp only [List.map_toArray, List.map_cons, List.map_nil]); first | done | rfl | (simp only [List.length_drop, List.length_take]; rfl)) ?_; refine (@floor_calls (ZI (.slice A8 l.length c8)) g ⟨ov, adj, pre, n, fl, ag, true⟩ _ D7.out.O).mono ?_; rintro e w13 ⟨rfl, hb⟩; refine ⟨_, rfl, ?_⟩; replace D7 := Aside0.mk (D7.out.below hb); replace FA := Aside0.mk (ftA_keep FA.out (KeepBut.of_below hb g none)); replace FP := Aside0.mk (ftP_keep FP.out (KeepBut.of_below hb g none)); replace B15 := Aside0.mk (blk_below B15.out hb); clear hb))
          go_loopw [16] (fun v16 wr => ∃ k : Int, v16 = .int .i64 k ∧ Aside0 (0 ≤ k ∧ k ≤ l.length) ∧ Aside0 (GW w g wr ⟨ov, adj, pre, n, fl, ag, true⟩ (.slice A8 l.length c8) l) ∧ Aside0 (wr.heap[b14]? = some (.cells #[.int .i64 n, .int .i64 fl, .int .i64 ag, .bool ov, .slice P1 adj.length p1, .slice P2 pre.length p2] 32 (0, 0))) ∧ Aside0 (@FtA (ZI (.slice A8 l.length c8)) wr g (.slice P1 adj.length p1) adj) ∧ Aside0 (@FtP (ZI (.slice A8 l.length c8)) wr g (.slice P2 pre.length p2) pre)) (fun v16 _ => ((l.length : Int) - intOf v16).toNat)
          case atStart => exact ⟨0, rfl, ⟨by omega, by omega⟩, D7, B15, FA, FP⟩
          case round =>
            clear D7 B15 FA FP
            obtain ⟨k, rfl, hk, D7, B15, FA, FP⟩ := hrel
            have k0 := hk.out.1
            have k1 := hk.out.2
            have z0 : (_ : World).cell? ⟨b14, 0, none⟩ = some (.int .i64 n) := (blk_cell B15.out 0).trans rfl; have zf0 := blk_frozen B15.out 0; have z1 : (_ : World).cell? ⟨b14, 1, none⟩ = some (.int .i64 fl) := (blk_cell B15.out 1).trans rfl; have zf1 := blk_frozen B15.out 1; have z2 : (_ : World).cell? ⟨b14, 2, none⟩ = some (.int .i64 ag) := (blk_cell B15.out 2).trans rfl; have zf2 := blk_frozen B15.out 2; have z3 : (_ : World).cell? ⟨b14, 3, none⟩ = some (.bool ov) := (blk_cell B15.out 3).trans rfl; have zf3 := blk_frozen B15.out 3; have z4 : (_ : World).cell? ⟨b14, 4, none⟩ = some (.slice P1 adj.length p1) := (blk_cell B15.out 4).trans rfl; have zf4 := blk_frozen B15.out 4; have z5 : (_ : World).cell? ⟨b14, 5, none⟩ = some (.slice P2 pre.length p2) := (blk_cell B15.out 5).trans rfl; have zf5 := blk_frozen B15.out 5
            by_cases ck : k < (l.length : Int)
            rotate_left
            · go_wp2_with fail
              go_roundw
              case rel => exact ⟨_, i + 1, _, rfl, rfl, ⟨by omega, by omega⟩, IV1, ⟨fun a h => ⟨(VK1.out a h).1, (VK1.out a h).2.1⟩⟩, ⟨by have := HL1.out; omega⟩, D7⟩
              case measure => simp [intOf]; omega
            · go_wp2_with fail
              go_roundw
              case rel => exact ⟨_, i + 1, _, rfl, rfl, ⟨by omega, by omega⟩, IV1, ⟨fun a h => ⟨(VK1.out a h).1, (VK1.out a h).2.1⟩⟩, ⟨by have := HL1.out; omega⟩, D7⟩
              case measure => simp [intOf]; omega
        | true =>
          refine start_ (n := 32) (S := fun w' => w'.cell? ⟨b14, 0, none⟩ = some (.int .i64 n) ∧ w'.cell? ⟨b14, 1, none⟩ = some (.int .i64 fl) ∧ w'.cell? ⟨b14, 2, none⟩ = some (.int .i64 ag) ∧ w'.cell? ⟨b14, 3, none⟩ = some (.bool ov) ∧ w'.cell? ⟨b14, 4, none⟩ = some (.slice P1 adj.length p1) ∧ w'.cell? ⟨b14, 5, none⟩ = some (.slice P2 pre.length p2)) (ds := []) #[false, false, false, false, false, false, false, false, false, false, false, false, false, false, false, false, false, false, false, false, false, false, false, false, false, false, false, false, false, false, false, false] (by kernel_rfl) rfl rfl ⟨(blk_cell B15.out 0).trans rfl, (blk_cell B15.out 1).trans rfl, (blk_cell B15.out 2).trans rfl, (blk_cell B15.out 3).trans rfl, (blk_cell B15.out 4).trans rfl, (blk_cell B15.out 5).trans rfl⟩ (fun hHeld => ?_); refine with_tabW gg.tab26 gg.bits26 (fun HT_ HW_ => ?_)
          replace D7 := Aside0.mk (D7.out.below (below_drew (Below.refl _ _)))
          replace FA := Aside0.mk (ftA_keep FA.out (KeepBut.of_below (below_drew (Below.refl _ _)) g none))
          replace FP := Aside0.mk (ftP_keep FP.out (KeepBut.of_below (below_drew (Below.refl _ _)) g none))
          replace B15 := Aside0.mk (blk_below B15.out (below_drew (Below.refl _ _)))
          generalize w7.drew = w8 at D7 B15 FA FP hHeld ⊢
          refine pz 0 79 HT_ rfl rfl (by kernel_rfl) (fun _ _ _ h => h) (Or.inl ⟨by rfl, by intro w'; go_simp; with_reducible rfl⟩) (by simp only [Act.put, List.setIfInBounds_toArray, List.set_cons_zero, List.set_cons_succ, i64_w, i32_w]; rfl) ?_
          refine pz 2 81 HT_ rfl rfl (by kernel_rfl) (fun _ _ _ h => h) (Or.inl ⟨by rfl, by intro w'; go_simp; with_reducible rfl⟩) (by simp only [Act.put, List.setIfInBounds_toArray, List.set_cons_zero, List.set_cons_succ, i64_w, i32_w]; rfl) ?_
          refine one_ (i := 1) (N := some 80) #[true, true, true, false, false, false, false, false, false, false, false, false, false, false, false, false, false, false, false, false, false, false, false, false, false, false, false, false, false, false, false, false] rfl rfl (one_of HT_.out (by kernel_rfl)) (by decide) (fun K hK => ?_)
          refine goes_ Try.func15 (by kernel_rfl) rfl #[.pointer (some ⟨g, 0, none⟩)] (by rfl) rfl rfl (by (try simp only [List.map_toArray, List.map_cons, List.map_nil]); first | done | rfl | (simp only [List.length_drop, List.length_take]; rfl)) ?_
          refine (@floor_calls (ZI (.slice A8 l.length c8)) g ⟨ov, adj, pre, n, fl, ag, true⟩ _ D7.out.O).mono ?_
          rintro e w9 ⟨rfl, hb⟩
          refine ⟨_, rfl, ?_⟩
          replace D7 := Aside0.mk (D7.out.below hb)
          replace FA := Aside0.mk (ftA_keep FA.out (KeepBut.of_below hb g none))
          replace FP := Aside0.mk (ftP_keep FP.out (KeepBut.of_below hb g none))
          replace B15 := Aside0.mk (blk_below B15.out hb)
          clear hb
          refine hK.out _ _ ⟨(blk_cell B15.out 0).trans rfl, (blk_cell B15.out 1).trans rfl, (blk_cell B15.out 2).trans rfl, (blk_cell B15.out 3).trans rfl, (blk_cell B15.out 4).trans rfl, (blk_cell B15.out 5).trans rfl⟩ (fun hHeld => ?_)
          clear hK K
          refine norm_ (a' := ?_) ?_ ?_
          rotate_left
          · show Act.put _ (some 80) _ = _
            simp only [Act.put, List.setIfInBounds_toArray, List.set_cons_zero, List.set_cons_succ, i64_w, i32_w]
            rfl
          refine pz 3 82 HT_ rfl rfl (by kernel_rfl) (fun _ _ _ h => h) (Or.inl ⟨by rfl, by intro w'; go_simp; with_reducible rfl⟩) (by simp only [Act.put, List.setIfInBounds_toArray, List.set_cons_zero, List.set_cons_succ, i64_w, i32_w]; rfl) ?_
          try rw [qf]
          refine pz 4 83 HT_ rfl rfl (by kernel_rfl) (fun _ _ _ h => h) (Or.inl ⟨by rfl, by intro w'; go_simp; with_reducible rfl⟩) (by simp only [Act.put, List.setIfInBounds_toArray, List.set_cons_zero, List.set_cons_succ, i64_w, i32_w]; rfl) ?_
          refine pz 5 84 HT_ rfl rfl (by kernel_rfl) (fun _ _ _ h => h) (Or.inl ⟨by rfl, by intro w'; go_simp; with_reducible rfl⟩) (by simp only [Act.put, List.setIfInBounds_toArray, List.set_cons_zero, List.set_cons_succ, i64_w, i32_w]; rfl) ?_
          refine pz 6 85 HT_ rfl rfl (by kernel_rfl) (fun _ _ _ h => h) (Or.inl ⟨by rfl, by intro w'; go_simp; with_reducible rfl⟩) (by simp only [Act.put, List.setIfInBounds_toArray, List.set_cons_zero, List.set_cons_succ, i64_w, i32_w]; rfl) ?_
          refine pz 7 86 HT_ rfl rfl (by kernel_rfl) (fun _ _ _ h => h) (Or.inl ⟨by rfl, by intro w'; go_simp; with_reducible rfl⟩) (by simp only [Act.put, List.setIfInBounds_toArray, List.set_cons_zero, List.set_cons_succ, i64_w, i32_w]; rfl) ?_
          refine pz 8 87 HT_ rfl rfl (by kernel_rfl) (fun _ _ _ h => h) (Or.inl ⟨by rfl, by intro w'; go_simp; with_reducible rfl⟩) (by simp only [Act.put, List.setIfInBounds_toArray, List.set_cons_zero, List.set_cons_succ, i64_w, i32_w]; rfl) ?_
          refine pz 9 88 HT_ rfl rfl (by kernel_rfl) (fun _ _ _ h => h) (Or.inl ⟨by rfl, by intro w'; go_simp; with_reducible rfl⟩) (by simp only [Act.put, List.setIfInBounds_toArray, List.set_cons_zero, List.set_cons_succ, i64_w, i32_w]; rfl) ?_
          refine pz 10 89 HT_ rfl rfl (by kernel_rfl) (fun _ _ _ h => h) (Or.inl ⟨by rfl, by intro w'; go_simp; with_reducible rfl⟩) (by simp only [Act.put, List.setIfInBounds_toArray, List.set_cons_zero, List.set_cons_succ, i64_w, i32_w]; rfl) ?_
          refine pz 11 90 HT_ rfl rfl (by kernel_rfl) (fun _ _ _ h => h) (Or.inl ⟨by rfl, by intro w'; go_simp; with_reducible rfl⟩) (by simp only [Act.put, List.setIfInBounds_toArray, List.set_cons_zero, List.set_cons_succ, i64_w, i32_w]; rfl) ?_
          refine pz 12 91 HT_ rfl rfl (by kernel_rfl) (fun _ _ _ h => h) (Or.inl ⟨by rfl, by intro w'; go_simp; with_reducible rfl⟩) (by simp only [Act.put, List.setIfInBounds_toArray, List.set_cons_zero, List.set_cons_succ, i64_w, i32_w]; rfl) ?_
          refine pz 13 92 HT_ rfl rfl (by kernel_rfl) (fun _ _ _ h => h) (Or.inl ⟨by rfl, by intro w'; go_simp; with_reducible rfl⟩) (by simp only [Act.put, List.setIfInBounds_toArray, List.set_cons_zero, List.set_cons_succ, i64_w, i32_w]; rfl) ?_
          refine tz 14 93 HT_ HW_ rfl rfl (by kernel_rfl) (fun _ _ _ h => h) (Or.inl ⟨by rfl, by rintro w' ⟨s0, s1, s2, s3, s4, s5⟩; go_simp; with_reducible rfl⟩) hHeld (by simp only [Act.put, List.setIfInBounds_toArray, List.set_cons_zero, List.set_cons_succ, i64_w, i32_w]; rfl) ?_
          refine one_ (i := 15) (N := some 94) #[true, true, true, true, true, true, true, true, true, true, true, true, true, true, true, true, false, false, false, false, false, false, false, false, false, false, false, false, false, false, false, false] rfl rfl (one_of HT_.out (by kernel_rfl)) (by decide) (fun K hK => ?_)
          refine goes_ Try.func20 (by kernel_rfl) rfl #[.agg #[.int .i64 n, .int .i64 fl, .int .i64 ag, .bool ov, .slice P1 adj.length p1, .slice P2 pre.length p2]] (by rfl) rfl rfl (by (try simp only [List.map_toArray, List.map_cons, List.map_nil]); first | done | rfl | (simp only [List.length_drop, List.length_take]; rfl)) ?_
          refine (valid_c n fl ag ov VG.out (rdl_of FA.out FP.out)).mono ?_
          rintro e w10 ⟨rfl, hb⟩
          rw [decide_eq_true HV.out]
          refine ⟨_, rfl, ?_⟩
          replace D7 := Aside0.mk (D7.out.below hb)
          replace FA := Aside0.mk (ftA_keep FA.out (KeepBut.of_below hb g none))
          replace FP := Aside0.mk (ftP_keep FP.out (KeepBut.of_below hb g none))
          replace B15 := Aside0.mk (blk_below B15.out hb)
          clear hb
          refine hK.out _ _ ⟨(blk_cell B15.out 0).trans rfl, (blk_cell B15.out 1).trans rfl, (blk_cell B15.out 2).trans rfl, (blk_cell B15.out 3).trans rfl, (blk_cell B15.out 4).trans rfl, (blk_cell B15.out 5).trans rfl⟩ (fun hHeld => ?_)
          clear hK K
          refine norm_ (a' := ?_) ?_ ?_
          rotate_left
          · show Act.put _ (some 94) _ = _
            simp only [Act.put, List.setIfInBounds_toArray, List.set_cons_zero, List.set_cons_succ, i64_w, i32_w]
            rfl
          refine pz 16 95 HT_ rfl rfl (by kernel_rfl) (fun _ _ _ h => h) (Or.inl ⟨by rfl, by intro w'; go_simp; with_reducible rfl⟩) (by simp only [Act.put, List.setIfInBounds_toArray, List.set_cons_zero, List.set_cons_succ, i64_w, i32_w]; rfl) ?_
          refine pz 17 96 HT_ rfl rfl (by kernel_rfl) (fun _ _ _ h => h) (Or.inl ⟨by rfl, by intro w'; go_simp; with_reducible rfl⟩) (by simp only [Act.put, List.setIfInBounds_toArray, List.set_cons_zero, List.set_cons_succ, i64_w, i32_w]; rfl) ?_
          refine pz 18 97 HT_ rfl rfl (by kernel_rfl) (fun _ _ _ h => h) (Or.inl ⟨by rfl, by intro w'; go_simp; with_reducible rfl⟩) (by simp only [Act.put, List.setIfInBounds_toArray, List.set_cons_zero, List.set_cons_succ, i64_w, i32_w]; rfl) ?_
          refine pz 20 99 HT_ rfl rfl (by kernel_rfl) (fun _ _ _ h => h) (Or.inl ⟨by rfl, by intro w'; go_simp; with_reducible rfl⟩) (by simp only [Act.put, List.setIfInBounds_toArray, List.set_cons_zero, List.set_cons_succ, i64_w, i32_w]; rfl) ?_
          refine tz 19 98 HT_ HW_ rfl rfl (by kernel_rfl) (fun _ _ _ h => h) (Or.inl ⟨by rfl, by rintro w' ⟨s0, s1, s2, s3, s4, s5⟩; go_simp; with_reducible rfl⟩) hHeld (by simp only [Act.put, List.setIfInBounds_toArray, List.set_cons_zero, List.set_cons_succ, i64_w, i32_w]; rfl) ?_
          refine pz 21 100 HT_ rfl rfl (by kernel_rfl) (fun _ _ _ h => h) (Or.inl ⟨by rfl, by intro w'; go_simp; with_reducible rfl⟩) (by simp only [Act.put, List.setIfInBounds_toArray, List.set_cons_zero, List.set_cons_succ, i64_w, i32_w]; rfl) ?_
          refine pz 22 101 HT_ rfl rfl (by kernel_rfl) (fun _ _ _ h => h) (Or.inl ⟨by rfl, by intro w'; go_simp; with_reducible rfl⟩) (by simp only [Act.put, List.setIfInBounds_toArray, List.set_cons_zero, List.set_cons_succ, i64_w, i32_w]; rfl) ?_
          refine pz 23 102 HT_ rfl rfl (by kernel_rfl) (fun _ _ _ h => h) (Or.inl ⟨by rfl, by intro w'; go_simp; with_reducible rfl⟩) (by simp only [Act.put, List.setIfInBounds_toArray, List.set_cons_zero, List.set_cons_succ, i64_w, i32_w]; rfl) ?_
          refine pz 24 103 HT_ rfl rfl (by kernel_rfl) (fun _ _ _ h => h) (Or.inl ⟨by rfl, by intro w'; go_simp; with_reducible rfl⟩) (by simp only [Act.put, List.setIfInBounds_toArray, List.set_cons_zero, List.set_cons_succ, i64_w, i32_w]; rfl) ?_
          refine pz 26 105 HT_ rfl rfl (by kernel_rfl) (fun _ _ _ h => h) (Or.inl ⟨by rfl, by intro w'; go_simp; with_reducible rfl⟩) (by simp only [Act.put, List.setIfInBounds_toArray, List.set_cons_zero, List.set_cons_succ, i64_w, i32_w]; rfl) ?_
          refine tz 25 104 HT_ HW_ rfl rfl (by kernel_rfl) (fun _ _ _ h => h) (Or.inl ⟨by rfl, by rintro w' ⟨s0, s1, s2, s3, s4, s5⟩; go_simp; with_reducible rfl⟩) hHeld (by simp only [Act.put, List.setIfInBounds_toArray, List.set_cons_zero, List.set_cons_succ, i64_w, i32_w]; rfl) ?_
          refine one_ (i := 27) (N := some 106) #[true, true, true, true, true, true, true, true, true, true, true, true, true, true, true, true, true, true, true, true, true, true, true, true, true, true, true, true, false, false, false, false] rfl rfl (one_of HT_.out (by kernel_rfl)) (by decide) (fun K hK => ?_)
          refine goes_ Try.func15 (by kernel_rfl) rfl #[.pointer (some ⟨g, 0, none⟩)] (by rfl) rfl rfl (by (try simp only [List.map_toArray, List.map_cons, List.map_nil]); first | done | rfl | (simp only [List.length_drop, List.length_take]; rfl)) ?_
          refine (@floor_calls (ZI (.slice A8 l.length c8)) g ⟨ov, adj, pre, n, fl, ag, true⟩ _ D7.out.O).mono ?_
          rintro e w11 ⟨rfl, hb⟩
          refine ⟨_, rfl, ?_⟩
          replace D7 := Aside0.mk (D7.out.below hb)
          replace FA := Aside0.mk (ftA_keep FA.out (KeepBut.of_below hb g none))
          replace FP := Aside0.mk (ftP_keep FP.out (KeepBut.of_below hb g none))
          replace B15 := Aside0.mk (blk_below B15.out hb)
          clear hb
          refine hK.out _ _ ⟨(blk_cell B15.out 0).trans rfl, (blk_cell B15.out 1).trans rfl, (blk_cell B15.out 2).trans rfl, (blk_cell B15.out 3).trans rfl, (blk_cell B15.out 4).trans rfl, (blk_cell B15.out 5).trans rfl⟩ (fun hHeld => ?_)
          clear hK K
          refine norm_ (a' := ?_) ?_ ?_
          rotate_left
          · show Act.put _ (some 106) _ = _
            simp only [Act.put, List.setIfInBounds_toArray, List.set_cons_zero, List.set_cons_succ, i64_w, i32_w]
            rfl
          refine pz 28 107 HT_ rfl rfl (by kernel_rfl) (fun _ _ _ h => h) (Or.inl ⟨by rfl, by intro w'; go_simp; with_reducible rfl⟩) (by simp only [Act.put, List.setIfInBounds_toArray, List.set_cons_zero, List.set_cons_succ, i64_w, i32_w]; rfl) ?_
          refine pz 29 108 HT_ rfl rfl (by kernel_rfl) (fun _ _ _ h => h) (Or.inl ⟨by rfl, by intro w'; go_simp; with_reducible rfl⟩) (by simp only [Act.put, List.setIfInBounds_toArray, List.set_cons_zero, List.set_cons_succ, i64_w, i32_w]; rfl) ?_
          refine pz 30 109 HT_ rfl rfl (by kernel_rfl) (fun _ _ _ h => h) (Or.inl ⟨by rfl, by intro w'; go_simp; with_reducible rfl⟩) (by simp only [Act.put, List.setIfInBounds_toArray, List.set_cons_zero, List.set_cons_succ, i64_w, i32_w]; rfl) ?_
          refine pz 31 110 HT_ rfl rfl (by kernel_rfl) (fun _ _ _ h => h) (Or.inl ⟨by rfl, by intro w'; go_simp; with_reducible rfl⟩) (by simp only [Act.put, List.setIfInBounds_toArray, List.set_cons_zero, List.set_cons_succ, i64_w, i32_w]; rfl) ?_
          refine done_ (done_of HT_.out (by kernel_rfl)) ?_
          clear HT_ HW_ hHeld
          go_wp2_with (
            first
            | ((with_reducible refine gate_callee (f := 15) rfl ?_); refine goesL_ (some 112) rfl rfl Try.func15 (by kernel_rfl) rfl #[.pointer (some ⟨g, 0, none⟩)] rfl (by (try simp only [List.map_toArray, List.map_cons, List.map_nil]); first | done | rfl | (simp only [List.length_drop, List.length_take]; rfl)) ?_; refine (@floor_calls (ZI (.slice A8 l.length c8)) g ⟨ov, adj, pre, n, fl, ag, true⟩ _ D7.out.O).mono ?_; rintro e w13 ⟨rfl, hb⟩; refine ⟨_, rfl, ?_⟩; replace D7 := Aside0.mk (D7.out.below hb); replace FA := Aside0.mk (ftA_keep FA.out (KeepBut.of_below hb g none)); replace FP := Aside0.mk (ftP_keep FP.out (KeepBut.of_below hb g none)); replace B15 := Aside0.mk (blk_below B15.out hb); clear hb))
          go_loopw [16] (fun v16 wr => ∃ k : Int, v16 = .int .i64 k ∧ Aside0 (0 ≤ k ∧ k ≤ l.length) ∧ Aside0 (GW w g wr ⟨ov, adj, pre, n, fl, ag, true⟩ (.slice A8 l.length c8) l) ∧ Aside0 (wr.heap[b14]? = some (.cells #[.int .i64 n, .int .i64 fl, .int .i64 ag, .bool ov, .slice P1 adj.length p1, .slice P2 pre.length p2] 32 (0, 0))) ∧ Aside0 (@FtA (ZI (.slice A8 l.length c8)) wr g (.slice P1 adj.length p1) adj) ∧ Aside0 (@FtP (ZI (.slice A8 l.length c8)) wr g (.slice P2 pre.length p2) pre)) (fun v16 _ => ((l.length : Int) - intOf v16).toNat)
          case atStart => exact ⟨0, rfl, ⟨by omega, by omega⟩, D7, B15, FA, FP⟩
          case round =>
            clear D7 B15 FA FP
            obtain ⟨k, rfl, hk, D7, B15, FA, FP⟩ := hrel
            have k0 := hk.out.1
            have k1 := hk.out.2
            have z0 : (_ : World).cell? ⟨b14, 0, none⟩ = some (.int .i64 n) := (blk_cell B15.out 0).trans rfl; have zf0 := blk_frozen B15.out 0; have z1 : (_ : World).cell? ⟨b14, 1, none⟩ = some (.int .i64 fl) := (blk_cell B15.out 1).trans rfl; have zf1 := blk_frozen B15.out 1; have z2 : (_ : World).cell? ⟨b14, 2, none⟩ = some (.int .i64 ag) := (blk_cell B15.out 2).trans rfl; have zf2 := blk_frozen B15.out 2; have z3 : (_ : World).cell? ⟨b14, 3, none⟩ = some (.bool ov) := (blk_cell B15.out 3).trans rfl; have zf3 := blk_frozen B15.out 3; have z4 : (_ : World).cell? ⟨b14, 4, none⟩ = some (.slice P1 adj.length p1) := (blk_cell B15.out 4).trans rfl; have zf4 := blk_frozen B15.out 4; have z5 : (_ : World).cell? ⟨b14, 5, none⟩ = some (.slice P2 pre.length p2) := (blk_cell B15.out 5).trans rfl; have zf5 := blk_frozen B15.out 5
            by_cases ck : k < (l.length : Int)
            rotate_left
            · go_wp2_with (
                first
                | ((with_reducible refine gate_builtin (b := .append) (xs := #[.tmp 130, .tmp 132]) rfl ?_); at_builtin; refine OwnRow.append (R := KE g (.slice A8 l.length c8) _) (w0 := w) w.heap.size rfl (.tmp 130) (.tmp 132) 45 32 (.agg #[.int .i64 0, .int .i64 0, .int .i64 0, .bool false, .slice none 0 0, .slice none 0 0]) 6 80 rfl (by kernel_rfl) (by kernel_rfl) rfl (by decide) (by decide) (.slice A8 l.length c8) l (⟨n, fl, ag, ov, adj, pre⟩ : L) [.int .i64 n, .int .i64 fl, .int .i64 ag, .bool ov, .slice P1 adj.length p1, .slice P2 pre.length p2] rfl rfl (⟨_, _, rfl, FA.out, FP.out⟩) rfl (by intro u hu; simp only [List.mem_cons, List.not_mem_nil, or_false] at hu; rcases hu with rfl | rfl | rfl | rfl | rfl | rfl <;> rfl) D7.out.K D7.out.HB D7.out.HB.size (by have := HL1.out; have := hl15; omega) ?_; intro v9 w9 hown hb hg hat; have D9 := Aside0.mk (D7.out.app hown hb hg hat); clear hown hb hg hat))
              go_roundw
              case rel =>
                refine ⟨_, i + 1, _, rfl, rfl, ⟨by omega, by omega⟩, IV1, ⟨fun a h => ?_⟩, ⟨?_⟩, D9⟩
                · rcases List.mem_append.1 h with h | h
                  · exact ⟨(VK1.out a h).1, (VK1.out a h).2.1⟩
                  · obtain rfl := List.mem_singleton.1 h
                    exact ⟨HV.out, Int.le_refl _⟩
                · have := HL1.out
                  simp only [List.length_append, List.length_singleton]
                  omega
              case measure => simp [intOf]; omega
            obtain ⟨ad2, c2, E1, e1, E2, e2, a, ham, hv, hcl, RE, y0, y1, y2, y3, y4, y5⟩ := D7.out.at_ k k0 ck
            obtain ⟨hA, hc⟩ : A8 = some ad2 ∧ c8 = c2 := by
              injection hv with h1 _ h3
              exact ⟨h1, h3⟩
            subst hA hc
            have RE' := Aside0.mk RE
            clear RE hv hcl
            have VE := Aside0.mk (VK1.out a ham)
            clear ham
            have hnw : newer (⟨n, fl, ag, ov, adj, pre⟩ : L) a = 1 := newer_lt HV.out VE.out.1 (VE.out.2.2 (by simp))
            have HN := Aside0.mk hnw
            clear hnw
            go_upto_region 32 with (fail)
            refine start_ (n := 7) (S := fun w' => (w'.cell? ⟨b14, 0, none⟩ = some (.int .i64 n) ∧ w'.cell? ⟨b14, 1, none⟩ = some (.int .i64 fl) ∧ w'.cell? ⟨b14, 2, none⟩ = some (.int .i64 ag) ∧ w'.cell? ⟨b14, 3, none⟩ = some (.bool ov) ∧ w'.cell? ⟨b14, 4, none⟩ = some (.slice P1 adj.length p1) ∧ w'.cell? ⟨b14, 5, none⟩ = some (.slice P2 pre.length p2)) ∧ w'.cell? (ad2.add (k.toNat * 6)) = some (.int .i64 a.o) ∧ w'.cell? ⟨(ad2.add (k.toNat * 6)).block, (ad2.add (k.toNat * 6)).off + 1, none⟩ = some (.int .i64 a.s) ∧ w'.cell? ⟨(ad2.add (k.toNat * 6)).block, (ad2.add (k.toNat * 6)).off + 2, none⟩ = some (.int .i64 a.age) ∧ w'.cell? ⟨(ad2.add (k.toNat * 6)).block, (ad2.add (k.toNat * 6)).off + 3, none⟩ = some (.bool a.ov) ∧ w'.cell? ⟨(ad2.add (k.toNat * 6)).block, (ad2.add (k.toNat * 6)).off + 4, none⟩ = some (.slice E1 a.ad.length e1) ∧ w'.cell? ⟨(ad2.add (k.toNat * 6)).block, (ad2.add (k.toNat * 6)).off + 5, none⟩ = some (.slice E2 a.pf.length e2)) (ds := [5]) #[false, false, false, false, false, false, false] (by kernel_rfl) rfl rfl ⟨⟨(blk_cell B15.out 0).trans rfl, (blk_cell B15.out 1).trans rfl, (blk_cell B15.out 2).trans rfl, (blk_cell B15.out 3).trans rfl, (blk_cell B15.out 4).trans rfl, (blk_cell B15.out 5).trans rfl⟩, y0, y1, y2, y3, y4, y5⟩ (fun hHeld => ?_); refine with_tabW gg.tab32 gg.bits32 (fun HT_ HW_ => ?_)
            replace D7 := Aside0.mk (D7.out.below (below_drew (Below.refl _ _)))
            replace FA := Aside0.mk (ftA_keep FA.out (KeepBut.of_below (below_drew (Below.refl _ _)) g none))
            replace FP := Aside0.mk (ftP_keep FP.out (KeepBut.of_below (below_drew (Below.refl _ _)) g none))
            replace B15 := Aside0.mk (blk_below B15.out (below_drew (Below.refl _ _)))
            replace RE' := Aside0.mk (RE'.out.below (below_drew (Below.refl _ _)))
            clear z0 z1 z2 z3 z4 z5 zf0 zf1 zf2 zf3 zf4 zf5 y0 y1 y2 y3 y4 y5
            have p1_ := eq_true k0
            have p2_ := eq_true ck
            refine pz 1 123 HT_ rfl rfl (by kernel_rfl) (fun _ _ _ h => h) (Or.inl ⟨by rfl, by intro w'; go_simp; with_reducible rfl⟩) (by simp only [Act.put, List.setIfInBounds_toArray, List.set_cons_zero, List.set_cons_succ, i64_w, i32_w]; rfl) ?_
            refine pz 2 124 HT_ rfl rfl (by kernel_rfl) (fun _ _ _ h => h) (Or.inl ⟨by rfl, by intro w'; go_simp; with_reducible rfl⟩) (by simp only [Act.put, List.setIfInBounds_toArray, List.set_cons_zero, List.set_cons_succ, i64_w, i32_w]; rfl) ?_
            refine tz 0 122 HT_ HW_ rfl rfl (by kernel_rfl) (fun _ _ _ h => h) (Or.inl ⟨by rfl, by rintro w' ⟨⟨s0, s1, s2, s3, s4, s5⟩, t0, t1, t2, t3, t4, t5⟩; go_simp; with_reducible rfl⟩) hHeld (by simp only [Act.put, List.setIfInBounds_toArray, List.set_cons_zero, List.set_cons_succ, i64_w, i32_w]; rfl) ?_
            refine tz 3 125 HT_ HW_ rfl rfl (by kernel_rfl) (fun _ _ _ h => h) (Or.inl ⟨by rfl, by rintro w' ⟨⟨s0, s1, s2, s3, s4, s5⟩, t0, t1, t2, t3, t4, t5⟩; go_simp; with_reducible rfl⟩) hHeld (by simp only [Act.put, List.setIfInBounds_toArray, List.set_cons_zero, List.set_cons_succ, i64_w, i32_w]; rfl) ?_
            refine tz 4 126 HT_ HW_ rfl rfl (by kernel_rfl) (fun _ _ _ h => h) (Or.inl ⟨by rfl, by rintro w' ⟨⟨s0, s1, s2, s3, s4, s5⟩, t0, t1, t2, t3, t4, t5⟩; go_simp; with_reducible rfl⟩) hHeld (by simp only [Act.put, List.setIfInBounds_toArray, List.set_cons_zero, List.set_cons_succ, i64_w, i32_w]; rfl) ?_
            refine last_ (i := 5) (N := some 127) #[true, true, true, true, true, true, false] rfl rfl (one_of HT_.out (by kernel_rfl)) (by decide) (fun K hK => ?_)
            refine goes_ Try.func21 (by kernel_rfl) rfl #[.agg #[.int .i64 n, .int .i64 fl, .int .i64 ag, .bool ov, .slice P1 adj.length p1, .slice P2 pre.length p2], .agg #[.int .i64 a.o, .int .i64 a.s, .int .i64 a.age, .bool a.ov, .slice E1 a.ad.length e1, .slice E2 a.pf.length e2]] (by rfl) rfl rfl (by (try simp only [List.map_toArray, List.map_cons, List.map_nil]); first | done | rfl | (simp only [List.length_drop, List.length_take]; rfl)) ?_
            refine (newer_c n fl ag a.o a.s a.age ov a.ov VG.out (valid_g VE.out.1) (rdl_of FA.out FP.out) RE'.out).mono ?_
            rintro e w14 ⟨rfl, hb⟩
            rw [HN.out]
            refine ⟨_, rfl, ?_⟩
            replace D7 := Aside0.mk (D7.out.below hb)
            replace FA := Aside0.mk (ftA_keep FA.out (KeepBut.of_below hb g none))
            replace FP := Aside0.mk (ftP_keep FP.out (KeepBut.of_below hb g none))
            replace B15 := Aside0.mk (blk_below B15.out hb)
            clear hb
            refine hK.out _ _ ?_
            clear hK K
            refine norm_ (a' := ?_) ?_ ?_
            rotate_left
            · show Act.put _ (some 127) _ = _
              simp only [Act.put, List.setIfInBounds_toArray, List.set_cons_zero, List.set_cons_succ, i64_w, i32_w]
              rfl
            refine pz 6 128 HT_ rfl rfl (by kernel_rfl) (fun _ _ _ h => h) (Or.inl ⟨by rfl, by intro w'; go_simp; with_reducible rfl⟩) (by simp only [Act.put, List.setIfInBounds_toArray, List.set_cons_zero, List.set_cons_succ, i64_w, i32_w]; rfl) ?_
            refine done_ (done_of HT_.out (by kernel_rfl)) ?_
            clear HT_ HW_ hHeld
            go_wp2_with fail
            go_roundw
            case rel => exact ⟨k + 1, rfl, ⟨by omega, by omega⟩, D7, B15, FA, FP⟩
            case measure => simp [intOf]; omega
    subst ce
    obtain ⟨l2, hl2⟩ : ∃ l2, l ++ [(⟨x.f2.f0, x.f2.f1, x.f2.f2, x.f2.f3, x.f2.f4, x.f2.f5⟩ : L)] = l2 := ⟨_, rfl⟩
    have HL2 := Aside0.mk hl2
    clear hl2
    go_upto_region 25 with (
      first
      | ((with_reducible refine gate_callee (f := 18) rfl ?_); refine goesL_ (some 64) rfl rfl Try.func18 (by kernel_rfl) rfl #[.pointer (some ⟨g, 0, none⟩), .agg #[.int .i64 x.f2.f0, .int .i64 x.f2.f1, .int .i64 x.f2.f2, .bool x.f2.f3, .slice B6 x.f2.f4.length d6, .slice B7 x.f2.f5.length d7]] rfl (by (try simp only [List.map_toArray, List.map_cons, List.map_nil]); first | done | rfl | (simp only [List.length_drop, List.length_take]; rfl)) ?_; refine (@hearP_calls (ZI (.slice A8 l.length c8)) g s (⟨x.f2.f0, x.f2.f1, x.f2.f2, x.f2.f3, x.f2.f4, x.f2.f5⟩ : L) _ _ _ D.out.O (RX.out.below D.out.HB).A (RX.out.below D.out.HB).P (by have := IV.out.la; omega) (by have := IV.out.lp; omega) GX.out IV.out.g).mono ?_; rintro e wk ⟨rfl, hO, hM⟩; refine ⟨_, rfl, ?_⟩; simp only [HS.out] at hO ⊢; have DK := Aside0.mk (D.out.mut hM hO); have B13 := Aside0.mk ((hM.k.2 b11 (blk_lt B12.out) GB.out (by simp)).trans B12.out); clear hO hM; clear x0 x1 x2 x3 x4 x5 x6 x7 xf0 xf1 xf2 xf3 xf4 xf5 xf6 xf7; have x0 : wk.cell? ⟨b11, 0, none⟩ = some (.int .i64 x.f0) := (blk_cell B13.out 0).trans rfl; have xf0 := blk_frozen B13.out 0; have x1 : wk.cell? ⟨b11, 1, none⟩ = some (.int .i64 x.f1) := (blk_cell B13.out 1).trans rfl; have xf1 := blk_frozen B13.out 1; have x2 : wk.cell? ⟨b11, 2, none⟩ = some (.int .i64 x.f2.f0) := (blk_cell B13.out 2).trans rfl; have xf2 := blk_frozen B13.out 2; have x3 : wk.cell? ⟨b11, 3, none⟩ = some (.int .i64 x.f2.f1) := (blk_cell B13.out 3).trans rfl; have xf3 := blk_frozen B13.out 3; have x4 : wk.cell? ⟨b11, 4, none⟩ = some (.int .i64 x.f2.f2) := (blk_cell B13.out 4).trans rfl; have xf4 := blk_frozen B13.out 4; have x5 : wk.cell? ⟨b11, 5, none⟩ = some (.bool x.f2.f3) := (blk_cell B13.out 5).trans rfl; have xf5 := blk_frozen B13.out 5; have x6 : wk.cell? ⟨b11, 6, none⟩ = some (.slice B6 x.f2.f4.length d6) := (blk_cell B13.out 6).trans rfl; have xf6 := blk_frozen B13.out 6; have x7 : wk.cell? ⟨b11, 7, none⟩ = some (.slice B7 x.f2.f5.length d7) := (blk_cell B13.out 7).trans rfl; have xf7 := blk_frozen B13.out 7)
      | ((with_reducible refine gate_builtin (b := .append) (xs := #[.tmp 69, .tmp 72]) rfl ?_); at_builtin; refine OwnRow.append (R := KE g (.slice A8 l.length c8) wk) (w0 := w) w.heap.size rfl (.tmp 69) (.tmp 72) 45 32 (.agg #[.int .i64 0, .int .i64 0, .int .i64 0, .bool false, .slice none 0 0, .slice none 0 0]) 6 80 rfl (by kernel_rfl) (by kernel_rfl) rfl (by decide) (by decide) (.slice A8 l.length c8) l (⟨x.f2.f0, x.f2.f1, x.f2.f2, x.f2.f3, x.f2.f4, x.f2.f5⟩ : L) [.int .i64 x.f2.f0, .int .i64 x.f2.f1, .int .i64 x.f2.f2, .bool x.f2.f3, .slice B6 x.f2.f4.length d6, .slice B7 x.f2.f5.length d7] rfl rfl (DK.out.ke (a := (⟨x.f2.f0, x.f2.f1, x.f2.f2, x.f2.f3, x.f2.f4, x.f2.f5⟩ : L)) RX.out) rfl (by intro u hu; simp only [List.mem_cons, List.not_mem_nil, or_false] at hu; rcases hu with rfl | rfl | rfl | rfl | rfl | rfl <;> rfl) DK.out.K DK.out.HB DK.out.HB.size (by have := HL.out; have := hl15; omega) ?_; intro v9 w9 hown hb hg hat; rw [HL2.out] at hown; have DL := Aside0.mk (show GW w g w9 s1 v9 l2 from HL2.out ▸ DK.out.app (HL2.out ▸ hown) hb hg hat); clear hown hb hg hat))
    have VK1 := Aside0.mk (show ∀ a ∈ l2, Valid a ∧ a.s ≤ s1.floor ∧ (made = true → a.s < s1.floor) by
      intro a h
      rw [← HL2.out] at h
      rcases List.mem_append.1 h with h | h
      · exact VK0.out a h
      · obtain rfl := List.mem_singleton.1 h
        have hh := HI.out.2.2.2 rfl
        exact ⟨hh.1, hh.2.2.1, hh.2.2.2⟩)
    have HL1 := Aside0.mk (show (l2.length : Int) ≤ 2 * i + 1 by have := HL.out; rw [← HL2.out]; simp only [List.length_append, List.length_singleton]; omega)
    have l31 : l2.length ≤ 31 := by have := HL1.out; omega
    clear HS HI VK0 HL2 B13 x0 x1 x2 x3 x4 x5 x6 x7 xf0 xf1 xf2 xf3 xf4 xf5 xf6 xf7
    clear DK
    have DK := Aside0.mk DL.out
    clear DL
    obtain ⟨A9, c9, rfl, hc9⟩ := DK.out.slice
    obtain ⟨ov, adj, pre, nd, fl, ag, cu⟩ := s1
    obtain rfl : n = nd := IV1.out.node.symm
    have qf : decide (fl < s.floor) = false := decide_eq_false (by have h : s.floor ≤ fl := FL.out; omega)
    cases cu with
    | false =>
      obtain rfl : made = false := by
        cases made with
        | false => rfl
        | true => exact absurd (MD.out rfl) (by simp)
      go_upto_region 26 with (
        first
        | ((with_reducible refine gate_callee (f := 12) rfl ?_); refine goesL_ (some 76) rfl rfl Try.func12 (by kernel_rfl) rfl #[.pointer (some ⟨g, 0, none⟩)] rfl (by (try simp only [List.map_toArray, List.map_cons, List.map_nil]); first | done | rfl | (simp only [List.length_drop, List.length_take]; rfl)) ?_; refine (@current_none (ZI (.slice A9 l2.length c9)) g ⟨ov, adj, pre, n, fl, ag, false⟩ _ DK.out.O rfl).mono ?_; rintro e w5 ⟨rfl, hb⟩; refine ⟨_, rfl, ?_⟩; have D5 := Aside0.mk (DK.out.below hb); clear hb)
        | ((with_reducible refine gate_dst (N := 14) rfl ?_); refine box_event ?hg (N := 14) ?hd (cs := #[.int .i64 0, .int .i64 0, .int .i64 0, .bool false, .slice none 0 0, .slice none 0 0]) (t := 32) ?hr ?_; (case hd => rfl); (case hg => rfl); (case hr => first | (go_simp; done) | (go_simp; rfl)); intro b14 hg w6 hbox hb; have B14 := Aside0.mk hbox; have G14 := Aside0.mk (Nat.le_of_eq hg.symm); have HB14 := Aside0.mk hb; have z0 : w6.cell? ⟨b14, 0, none⟩ = some (.int .i64 0) := (blk_cell B14.out 0).trans rfl; have zf0 := blk_frozen B14.out 0; have z1 : w6.cell? ⟨b14, 1, none⟩ = some (.int .i64 0) := (blk_cell B14.out 1).trans rfl; have zf1 := blk_frozen B14.out 1; have z2 : w6.cell? ⟨b14, 2, none⟩ = some (.int .i64 0) := (blk_cell B14.out 2).trans rfl; have zf2 := blk_frozen B14.out 2; have z3 : w6.cell? ⟨b14, 3, none⟩ = some (.bool false) := (blk_cell B14.out 3).trans rfl; have zf3 := blk_frozen B14.out 3; have z4 : w6.cell? ⟨b14, 4, none⟩ = some (.slice none 0 0) := (blk_cell B14.out 4).trans rfl; have zf4 := blk_frozen B14.out 4; have z5 : w6.cell? ⟨b14, 5, none⟩ = some (.slice none 0 0) := (blk_cell B14.out 5).trans rfl; have zf5 := blk_frozen B14.out 5; clear hbox hb hg))
      have B15 := Aside0.mk (blk_put (cs' := #[.int .i64 0, .int .i64 0, .int .i64 0, .bool false, .slice none 0 0, .slice none 0 0]) (blk_put (cs' := #[.int .i64 0, .int .i64 0, .int .i64 0, .bool false, .slice none 0 0, .slice none 0 0]) (blk_put (cs' := #[.int .i64 0, .int .i64 0, .int .i64 0, .bool false, .slice none 0 0, .slice none 0 0]) (blk_put (cs' := #[.int .i64 0, .int .i64 0, .int .i64 0, .bool false, .slice none 0 0, .slice none 0 0]) (blk_put (cs' := #[.int .i64 0, .int .i64 0, .int .i64 0, .bool false, .slice none 0 0, .slice none 0 0]) (blk_put (cs' := #[.int .i64 0, .int .i64 0, .int .i64 0, .bool false, .slice none 0 0, .slice none 0 0]) B14.out 0 (.int .i64 0) rfl) 1 (.int .i64 0) rfl) 2 (.int .i64 0) rfl) 3 (.bool false) rfl) 4 (.slice none 0 0) rfl) 5 (.slice none 0 0) rfl)
      have HB15 := Aside0.mk (below_set (below_set (below_set (below_set (below_set (below_set HB14.out G14.out (j := 0) (v := .int .i64 0)) G14.out (j := 1) (v := .int .i64 0)) G14.out (j := 2) (v := .int .i64 0)) G14.out (j := 3) (v := .bool false)) G14.out (j := 4) (v := .slice none 0 0)) G14.out (j := 5) (v := .slice none 0 0))
      clear B14 HB14 G14 z0 z1 z2 z3 z4 z5 zf0 zf1 zf2 zf3 zf4 zf5
      generalize ((((((w6.setCell ⟨b14, 0, none⟩ (.int .i64 0)).setCell ⟨b14, 1, none⟩ (.int .i64 0)).setCell ⟨b14, 2, none⟩ (.int .i64 0)).setCell ⟨b14, 3, none⟩ (.bool false)).setCell ⟨b14, 4, none⟩ (.slice none 0 0)).setCell ⟨b14, 5, none⟩ (.slice none 0 0)) = w7 at B15 HB15 ⊢
      have D7 := Aside0.mk (D5.out.below HB15.out)
      clear D5 HB15 DK
      refine start_ (n := 32) (S := fun w' => w'.cell? ⟨b14, 0, none⟩ = some (.int .i64 0) ∧ w'.cell? ⟨b14, 1, none⟩ = some (.int .i64 0) ∧ w'.cell? ⟨b14, 2, none⟩ = some (.int .i64 0) ∧ w'.cell? ⟨b14, 3, none⟩ = some (.bool false) ∧ w'.cell? ⟨b14, 4, none⟩ = some (.slice none 0 0) ∧ w'.cell? ⟨b14, 5, none⟩ = some (.slice none 0 0)) (ds := []) #[false, false, false, false, false, false, false, false, false, false, false, false, false, false, false, false, false, false, false, false, false, false, false, false, false, false, false, false, false, false, false, false] (by kernel_rfl) rfl rfl ⟨(blk_cell B15.out 0).trans rfl, (blk_cell B15.out 1).trans rfl, (blk_cell B15.out 2).trans rfl, (blk_cell B15.out 3).trans rfl, (blk_cell B15.out 4).trans rfl, (blk_cell B15.out 5).trans rfl⟩ (fun hHeld => ?_); refine with_tabW gg.tab26 gg.bits26 (fun HT_ HW_ => ?_)
      replace D7 := Aside0.mk (D7.out.below (below_drew (Below.refl _ _)))
      replace B15 := Aside0.mk (blk_below B15.out (below_drew (Below.refl _ _)))
      generalize w7.drew = w8 at D7 B15 hHeld ⊢
      refine pz 0 79 HT_ rfl rfl (by kernel_rfl) (fun _ _ _ h => h) (Or.inl ⟨by rfl, by intro w'; go_simp; with_reducible rfl⟩) (by simp only [Act.put, List.setIfInBounds_toArray, List.set_cons_zero, List.set_cons_succ, i64_w, i32_w]; rfl) ?_
      refine pz 2 81 HT_ rfl rfl (by kernel_rfl) (fun _ _ _ h => h) (Or.inl ⟨by rfl, by intro w'; go_simp; with_reducible rfl⟩) (by simp only [Act.put, List.setIfInBounds_toArray, List.set_cons_zero, List.set_cons_succ, i64_w, i32_w]; rfl) ?_
      refine one_ (i := 1) (N := some 80) #[true, true, true, false, false, false, false, false, false, false, false, false, false, false, false, false, false, false, false, false, false, false, false, false, false, false, false, false, false, false, false, false] rfl rfl (one_of HT_.out (by kernel_rfl)) (by decide) (fun K hK => ?_)
      refine goes_ Try.func15 (by kernel_rfl) rfl #[.pointer (some ⟨g, 0, none⟩)] (by rfl) rfl rfl (by (try simp only [List.map_toArray, List.map_cons, List.map_nil]); first | done | rfl | (simp only [List.length_drop, List.length_take]; rfl)) ?_
      refine (@floor_calls (ZI (.slice A9 l2.length c9)) g ⟨ov, adj, pre, n, fl, ag, false⟩ _ D7.out.O).mono ?_
      rintro e w9 ⟨rfl, hb⟩
      refine ⟨_, rfl, ?_⟩
      replace D7 := Aside0.mk (D7.out.below hb)
      replace B15 := Aside0.mk (blk_below B15.out hb)
      clear hb
      refine hK.out _ _ ⟨(blk_cell B15.out 0).trans rfl, (blk_cell B15.out 1).trans rfl, (blk_cell B15.out 2).trans rfl, (blk_cell B15.out 3).trans rfl, (blk_cell B15.out 4).trans rfl, (blk_cell B15.out 5).trans rfl⟩ (fun hHeld => ?_)
      clear hK K
      refine norm_ (a' := ?_) ?_ ?_
      rotate_left
      · show Act.put _ (some 80) _ = _
        simp only [Act.put, List.setIfInBounds_toArray, List.set_cons_zero, List.set_cons_succ, i64_w, i32_w]
        rfl
      refine pz 3 82 HT_ rfl rfl (by kernel_rfl) (fun _ _ _ h => h) (Or.inl ⟨by rfl, by intro w'; go_simp; with_reducible rfl⟩) (by simp only [Act.put, List.setIfInBounds_toArray, List.set_cons_zero, List.set_cons_succ, i64_w, i32_w]; rfl) ?_
      try rw [qf]
      refine pz 4 83 HT_ rfl rfl (by kernel_rfl) (fun _ _ _ h => h) (Or.inl ⟨by rfl, by intro w'; go_simp; with_reducible rfl⟩) (by simp only [Act.put, List.setIfInBounds_toArray, List.set_cons_zero, List.set_cons_succ, i64_w, i32_w]; rfl) ?_
      refine pz 5 84 HT_ rfl rfl (by kernel_rfl) (fun _ _ _ h => h) (Or.inl ⟨by rfl, by intro w'; go_simp; with_reducible rfl⟩) (by simp only [Act.put, List.setIfInBounds_toArray, List.set_cons_zero, List.set_cons_succ, i64_w, i32_w]; rfl) ?_
      refine pz 6 85 HT_ rfl rfl (by kernel_rfl) (fun _ _ _ h => h) (Or.inl ⟨by rfl, by intro w'; go_simp; with_reducible rfl⟩) (by simp only [Act.put, List.setIfInBounds_toArray, List.set_cons_zero, List.set_cons_succ, i64_w, i32_w]; rfl) ?_
      refine pz (v := undef) 7 86 HT_ rfl rfl (by kernel_rfl) (fun _ _ _ h => h) (Or.inr ⟨by rfl, rfl⟩) (by simp only [Act.put, List.setIfInBounds_toArray, List.set_cons_zero, List.set_cons_succ, i64_w, i32_w]; rfl) ?_
      refine pz (v := undef) 8 87 HT_ rfl rfl (by kernel_rfl) (fun _ _ _ h => h) (Or.inr ⟨by rfl, rfl⟩) (by simp only [Act.put, List.setIfInBounds_toArray, List.set_cons_zero, List.set_cons_succ, i64_w, i32_w]; rfl) ?_
      refine pz 9 88 HT_ rfl rfl (by kernel_rfl) (fun _ _ _ h => h) (Or.inl ⟨by rfl, by intro w'; go_simp; with_reducible rfl⟩) (by simp only [Act.put, List.setIfInBounds_toArray, List.set_cons_zero, List.set_cons_succ, i64_w, i32_w]; rfl) ?_
      refine pz 10 89 HT_ rfl rfl (by kernel_rfl) (fun _ _ _ h => h) (Or.inl ⟨by rfl, by intro w'; go_simp; with_reducible rfl⟩) (by simp only [Act.put, List.setIfInBounds_toArray, List.set_cons_zero, List.set_cons_succ, i64_w, i32_w]; rfl) ?_
      refine pz 11 90 HT_ rfl rfl (by kernel_rfl) (fun _ _ _ h => h) (Or.inl ⟨by rfl, by intro w'; go_simp; with_reducible rfl⟩) (by simp only [Act.put, List.setIfInBounds_toArray, List.set_cons_zero, List.set_cons_succ, i64_w, i32_w]; rfl) ?_
      refine pz 12 91 HT_ rfl rfl (by kernel_rfl) (fun _ _ _ h => h) (Or.inl ⟨by rfl, by intro w'; go_simp; with_reducible rfl⟩) (by simp only [Act.put, List.setIfInBounds_toArray, List.set_cons_zero, List.set_cons_succ, i64_w, i32_w]; rfl) ?_
      refine pz 13 92 HT_ rfl rfl (by kernel_rfl) (fun _ _ _ h => h) (Or.inl ⟨by rfl, by intro w'; go_simp; with_reducible rfl⟩) (by simp only [Act.put, List.setIfInBounds_toArray, List.set_cons_zero, List.set_cons_succ, i64_w, i32_w]; rfl) ?_
      refine pz (v := undef) 14 93 HT_ rfl rfl (by kernel_rfl) (fun _ _ _ h => h) (Or.inr ⟨by rfl, rfl⟩) (by simp only [Act.put, List.setIfInBounds_toArray, List.set_cons_zero, List.set_cons_succ, i64_w, i32_w]; rfl) ?_
      refine pz (v := undef) 15 94 HT_ rfl rfl (by kernel_rfl) (fun _ _ _ h => h) (Or.inr ⟨by rfl, rfl⟩) (by simp only [Act.put, List.setIfInBounds_toArray, List.set_cons_zero, List.set_cons_succ, i64_w, i32_w]; rfl) ?_
      refine pz (v := undef) 16 95 HT_ rfl rfl (by kernel_rfl) (fun _ _ _ h => h) (Or.inr ⟨by rfl, rfl⟩) (by simp only [Act.put, List.setIfInBounds_toArray, List.set_cons_zero, List.set_cons_succ, i64_w, i32_w]; rfl) ?_
      refine pz (v := undef) 17 96 HT_ rfl rfl (by kernel_rfl) (fun _ _ _ h => h) (Or.inr ⟨by rfl, rfl⟩) (by simp only [Act.put, List.setIfInBounds_toArray, List.set_cons_zero, List.set_cons_succ, i64_w, i32_w]; rfl) ?_
      refine pz (v := undef) 18 97 HT_ rfl rfl (by kernel_rfl) (fun _ _ _ h => h) (Or.inr ⟨by rfl, rfl⟩) (by simp only [Act.put, List.setIfInBounds_toArray, List.set_cons_zero, List.set_cons_succ, i64_w, i32_w]; rfl) ?_
      refine pz (v := undef) 19 98 HT_ rfl rfl (by kernel_rfl) (fun _ _ _ h => h) (Or.inr ⟨by rfl, rfl⟩) (by simp only [Act.put, List.setIfInBounds_toArray, List.set_cons_zero, List.set_cons_succ, i64_w, i32_w]; rfl) ?_
      refine pz (v := undef) 20 99 HT_ rfl rfl (by kernel_rfl) (fun _ _ _ h => h) (Or.inr ⟨by rfl, rfl⟩) (by simp only [Act.put, List.setIfInBounds_toArray, List.set_cons_zero, List.set_cons_succ, i64_w, i32_w]; rfl) ?_
      refine pz (v := undef) 21 100 HT_ rfl rfl (by kernel_rfl) (fun _ _ _ h => h) (Or.inr ⟨by rfl, rfl⟩) (by simp only [Act.put, List.setIfInBounds_toArray, List.set_cons_zero, List.set_cons_succ, i64_w, i32_w]; rfl) ?_
      refine pz (v := undef) 22 101 HT_ rfl rfl (by kernel_rfl) (fun _ _ _ h => h) (Or.inr ⟨by rfl, rfl⟩) (by simp only [Act.put, List.setIfInBounds_toArray, List.set_cons_zero, List.set_cons_succ, i64_w, i32_w]; rfl) ?_
      refine pz (v := undef) 23 102 HT_ rfl rfl (by kernel_rfl) (fun _ _ _ h => h) (Or.inr ⟨by rfl, rfl⟩) (by simp only [Act.put, List.setIfInBounds_toArray, List.set_cons_zero, List.set_cons_succ, i64_w, i32_w]; rfl) ?_
      refine pz (v := undef) 24 103 HT_ rfl rfl (by kernel_rfl) (fun _ _ _ h => h) (Or.inr ⟨by rfl, rfl⟩) (by simp only [Act.put, List.setIfInBounds_toArray, List.set_cons_zero, List.set_cons_succ, i64_w, i32_w]; rfl) ?_
      refine pz (v := undef) 25 104 HT_ rfl rfl (by kernel_rfl) (fun _ _ _ h => h) (Or.inr ⟨by rfl, rfl⟩) (by simp only [Act.put, List.setIfInBounds_toArray, List.set_cons_zero, List.set_cons_succ, i64_w, i32_w]; rfl) ?_
      refine pz (v := undef) 26 105 HT_ rfl rfl (by kernel_rfl) (fun _ _ _ h => h) (Or.inr ⟨by rfl, rfl⟩) (by simp only [Act.put, List.setIfInBounds_toArray, List.set_cons_zero, List.set_cons_succ, i64_w, i32_w]; rfl) ?_
      refine pz (v := undef) 27 106 HT_ rfl rfl (by kernel_rfl) (fun _ _ _ h => h) (Or.inr ⟨by rfl, rfl⟩) (by simp only [Act.put, List.setIfInBounds_toArray, List.set_cons_zero, List.set_cons_succ, i64_w, i32_w]; rfl) ?_
      refine pz (v := undef) 28 107 HT_ rfl rfl (by kernel_rfl) (fun _ _ _ h => h) (Or.inr ⟨by rfl, rfl⟩) (by simp only [Act.put, List.setIfInBounds_toArray, List.set_cons_zero, List.set_cons_succ, i64_w, i32_w]; rfl) ?_
      refine pz (v := undef) 29 108 HT_ rfl rfl (by kernel_rfl) (fun _ _ _ h => h) (Or.inr ⟨by rfl, rfl⟩) (by simp only [Act.put, List.setIfInBounds_toArray, List.set_cons_zero, List.set_cons_succ, i64_w, i32_w]; rfl) ?_
      refine pz 30 109 HT_ rfl rfl (by kernel_rfl) (fun _ _ _ h => h) (Or.inl ⟨by rfl, by intro w'; go_simp; with_reducible rfl⟩) (by simp only [Act.put, List.setIfInBounds_toArray, List.set_cons_zero, List.set_cons_succ, i64_w, i32_w]; rfl) ?_
      refine pz 31 110 HT_ rfl rfl (by kernel_rfl) (fun _ _ _ h => h) (Or.inl ⟨by rfl, by intro w'; go_simp; with_reducible rfl⟩) (by simp only [Act.put, List.setIfInBounds_toArray, List.set_cons_zero, List.set_cons_succ, i64_w, i32_w]; rfl) ?_
      refine done_ (done_of HT_.out (by kernel_rfl)) ?_
      clear HT_ HW_ hHeld
      go_wp2_with (
        first
        | ((with_reducible refine gate_callee (f := 15) rfl ?_); refine goesL_ (some 112) rfl rfl Try.func15 (by kernel_rfl) rfl #[.pointer (some ⟨g, 0, none⟩)] rfl (by (try simp only [List.map_toArray, List.map_cons, List.map_nil]); first | done | rfl | (simp only [List.length_drop, List.length_take]; rfl)) ?_; refine (@floor_calls (ZI (.slice A9 l2.length c9)) g ⟨ov, adj, pre, n, fl, ag, false⟩ _ D7.out.O).mono ?_; rintro e w13 ⟨rfl, hb⟩; refine ⟨_, rfl, ?_⟩; replace D7 := Aside0.mk (D7.out.below hb); replace B15 := Aside0.mk (blk_below B15.out hb); clear hb))
      go_loopw [16] (fun v16 wr => ∃ k : Int, v16 = .int .i64 k ∧ Aside0 (0 ≤ k ∧ k ≤ l2.length) ∧ Aside0 (GW w g wr ⟨ov, adj, pre, n, fl, ag, false⟩ (.slice A9 l2.length c9) l2) ∧ Aside0 (wr.heap[b14]? = some (.cells #[.int .i64 0, .int .i64 0, .int .i64 0, .bool false, .slice none 0 0, .slice none 0 0] 32 (0, 0)))) (fun v16 _ => ((l2.length : Int) - intOf v16).toNat)
      case atStart => exact ⟨0, rfl, ⟨by omega, by omega⟩, D7, B15⟩
      case round =>
        clear D7 B15
        obtain ⟨k, rfl, hk, D7, B15⟩ := hrel
        have k0 := hk.out.1
        have k1 := hk.out.2
        have z0 : (_ : World).cell? ⟨b14, 0, none⟩ = some (.int .i64 0) := (blk_cell B15.out 0).trans rfl; have zf0 := blk_frozen B15.out 0; have z1 : (_ : World).cell? ⟨b14, 1, none⟩ = some (.int .i64 0) := (blk_cell B15.out 1).trans rfl; have zf1 := blk_frozen B15.out 1; have z2 : (_ : World).cell? ⟨b14, 2, none⟩ = some (.int .i64 0) := (blk_cell B15.out 2).trans rfl; have zf2 := blk_frozen B15.out 2; have z3 : (_ : World).cell? ⟨b14, 3, none⟩ = some (.bool false) := (blk_cell B15.out 3).trans rfl; have zf3 := blk_frozen B15.out 3; have z4 : (_ : World).cell? ⟨b14, 4, none⟩ = some (.slice none 0 0) := (blk_cell B15.out 4).trans rfl; have zf4 := blk_frozen B15.out 4; have z5 : (_ : World).cell? ⟨b14, 5, none⟩ = some (.slice none 0 0) := (blk_cell B15.out 5).trans rfl; have zf5 := blk_frozen B15.out 5
        by_cases ck : k < (l2.length : Int)
        rotate_left
        · go_wp2_with fail
          go_roundw
          case rel => exact ⟨_, i + 1, _, rfl, rfl, ⟨by omega, by omega⟩, IV1, ⟨fun a h => ⟨(VK1.out a h).1, (VK1.out a h).2.1⟩⟩, ⟨by have := HL1.out; omega⟩, D7⟩
          case measure => simp [intOf]; omega
        · go_wp2_with fail
          go_roundw
          case rel => exact ⟨_, i + 1, _, rfl, rfl, ⟨by omega, by omega⟩, IV1, ⟨fun a h => ⟨(VK1.out a h).1, (VK1.out a h).2.1⟩⟩, ⟨by have := HL1.out; omega⟩, D7⟩
          case measure => simp [intOf]; omega
    | true =>
      have HV := Aside0.mk (show Valid (⟨n, fl, ag, ov, adj, pre⟩ : L) from IV1.out.valid rfl)
      have VG := Aside0.mk (show G32 pre from IV1.out.g)
      have la := Aside0.mk (show adj.length ≤ 300 from IV1.out.la)
      have lp := Aside0.mk (show pre.length ≤ 300 from IV1.out.lp)
      go_upto_region 26 with (
        first
        | ((with_reducible refine gate_callee (f := 12) rfl ?_); refine goesL_ (some 76) rfl rfl Try.func12 (by kernel_rfl) rfl #[.pointer (some ⟨g, 0, none⟩)] rfl (by (try simp only [List.map_toArray, List.map_cons, List.map_nil]); first | done | rfl | (simp only [List.length_drop, List.length_take]; rfl)) ?_; refine (@current_ft (ZI (.slice A9 l2.length c9)) g ⟨ov, adj, pre, n, fl, ag, true⟩ _ DK.out.O (by have := la.out; show adj.length < _; omega) (by have := lp.out; show pre.length < _; omega) rfl).mono ?_; rintro e w5 ⟨r1, r2, rfl, hA, hP, hb⟩; refine ⟨_, rfl, ?_⟩; have FA0 := Aside0.mk hA; have FP0 := Aside0.mk hP; obtain ⟨_, P1, p1, rfl, _, _⟩ := hA; obtain ⟨_, P2, p2, rfl, _, _⟩ := hP; have D5 := Aside0.mk (DK.out.below hb); clear hb; dsimp only [LSAv])
        | ((with_reducible refine gate_dst (N := 14) rfl ?_); refine box_event ?hg (N := 14) ?hd (cs := #[.int .i64 0, .int .i64 0, .int .i64 0, .bool false, .slice none 0 0, .slice none 0 0]) (t := 32) ?hr ?_; (case hd => rfl); (case hg => rfl); (case hr => first | (go_simp; done) | (go_simp; rfl)); intro b14 hg w6 hbox hb; have B14 := Aside0.mk hbox; have G14 := Aside0.mk (Nat.le_of_eq hg.symm); have HB14 := Aside0.mk hb; have z0 : w6.cell? ⟨b14, 0, none⟩ = some (.int .i64 0) := (blk_cell B14.out 0).trans rfl; have zf0 := blk_frozen B14.out 0; have z1 : w6.cell? ⟨b14, 1, none⟩ = some (.int .i64 0) := (blk_cell B14.out 1).trans rfl; have zf1 := blk_frozen B14.out 1; have z2 : w6.cell? ⟨b14, 2, none⟩ = some (.int .i64 0) := (blk_cell B14.out 2).trans rfl; have zf2 := blk_frozen B14.out 2; have z3 : w6.cell? ⟨b14, 3, none⟩ = some (.bool false) := (blk_cell B14.out 3).trans rfl; have zf3 := blk_frozen B14.out 3; have z4 : w6.cell? ⟨b14, 4, none⟩ = some (.slice none 0 0) := (blk_cell B14.out 4).trans rfl; have zf4 := blk_frozen B14.out 4; have z5 : w6.cell? ⟨b14, 5, none⟩ = some (.slice none 0 0) := (blk_cell B14.out 5).trans rfl; have zf5 := blk_frozen B14.out 5; clear hbox hb hg))
      have B15 := Aside0.mk (blk_put (cs' := #[.int .i64 n, .int .i64 fl, .int .i64 ag, .bool ov, .slice P1 adj.length p1, .slice P2 pre.length p2]) (blk_put (cs' := #[.int .i64 n, .int .i64 fl, .int .i64 ag, .bool ov, .slice P1 adj.length p1, .slice none 0 0]) (blk_put (cs' := #[.int .i64 n, .int .i64 fl, .int .i64 ag, .bool ov, .slice none 0 0, .slice none 0 0]) (blk_put (cs' := #[.int .i64 n, .int .i64 fl, .int .i64 ag, .bool false, .slice none 0 0, .slice none 0 0]) (blk_put (cs' := #[.int .i64 n, .int .i64 fl, .int .i64 0, .bool false, .slice none 0 0, .slice none 0 0]) (blk_put (cs' := #[.int .i64 n, .int .i64 0, .int .i64 0, .bool false, .slice none 0 0, .slice none 0 0]) B14.out 0 (.int .i64 n) rfl) 1 (.int .i64 fl) rfl) 2 (.int .i64 ag) rfl) 3 (.bool ov) rfl) 4 (.slice P1 adj.length p1) rfl) 5 (.slice P2 pre.length p2) rfl)
      have HB15 := Aside0.mk (below_set (below_set (below_set (below_set (below_set (below_set HB14.out G14.out (j := 0) (v := .int .i64 n)) G14.out (j := 1) (v := .int .i64 fl)) G14.out (j := 2) (v := .int .i64 ag)) G14.out (j := 3) (v := .bool ov)) G14.out (j := 4) (v := .slice P1 adj.length p1)) G14.out (j := 5) (v := .slice P2 pre.length p2))
      clear B14 HB14 G14 z0 z1 z2 z3 z4 z5 zf0 zf1 zf2 zf3 zf4 zf5
      generalize ((((((w6.setCell ⟨b14, 0, none⟩ (.int .i64 n)).setCell ⟨b14, 1, none⟩ (.int .i64 fl)).setCell ⟨b14, 2, none⟩ (.int .i64 ag)).setCell ⟨b14, 3, none⟩ (.bool ov)).setCell ⟨b14, 4, none⟩ (.slice P1 adj.length p1)).setCell ⟨b14, 5, none⟩ (.slice P2 pre.length p2)) = w7 at B15 HB15 ⊢
      have D7 := Aside0.mk (D5.out.below HB15.out)
      have FA := Aside0.mk (ftA_keep FA0.out (KeepBut.of_below HB15.out g none))
      have FP := Aside0.mk (ftP_keep FP0.out (KeepBut.of_below HB15.out g none))
      clear D5 HB15 FA0 FP0 DK
      cases made with
      | false =>
        refine start_ (n := 32) (S := fun w' => w'.cell? ⟨b14, 0, none⟩ = some (.int .i64 n) ∧ w'.cell? ⟨b14, 1, none⟩ = some (.int .i64 fl) ∧ w'.cell? ⟨b14, 2, none⟩ = some (.int .i64 ag) ∧ w'.cell? ⟨b14, 3, none⟩ = some (.bool ov) ∧ w'.cell? ⟨b14, 4, none⟩ = some (.slice P1 adj.length p1) ∧ w'.cell? ⟨b14, 5, none⟩ = some (.slice P2 pre.length p2)) (ds := []) #[false, false, false, false, false, false, false, false, false, false, false, false, false, false, false, false, false, false, false, false, false, false, false, false, false, false, false, false, false, false, false, false] (by kernel_rfl) rfl rfl ⟨(blk_cell B15.out 0).trans rfl, (blk_cell B15.out 1).trans rfl, (blk_cell B15.out 2).trans rfl, (blk_cell B15.out 3).trans rfl, (blk_cell B15.out 4).trans rfl, (blk_cell B15.out 5).trans rfl⟩ (fun hHeld => ?_); refine with_tabW gg.tab26 gg.bits26 (fun HT_ HW_ => ?_)
        replace D7 := Aside0.mk (D7.out.below (below_drew (Below.refl _ _)))
        replace FA := Aside0.mk (ftA_keep FA.out (KeepBut.of_below (below_drew (Below.refl _ _)) g none))
        replace FP := Aside0.mk (ftP_keep FP.out (KeepBut.of_below (below_drew (Below.refl _ _)) g none))
        replace B15 := Aside0.mk (blk_below B15.out (below_drew (Below.refl _ _)))
        generalize w7.drew = w8 at D7 B15 FA FP hHeld ⊢
        refine pz 0 79 HT_ rfl rfl (by kernel_rfl) (fun _ _ _ h => h) (Or.inl ⟨by rfl, by intro w'; go_simp; with_reducible rfl⟩) (by simp only [Act.put, List.setIfInBounds_toArray, List.set_cons_zero, List.set_cons_succ, i64_w, i32_w]; rfl) ?_
        refine pz 2 81 HT_ rfl rfl (by kernel_rfl) (fun _ _ _ h => h) (Or.inl ⟨by rfl, by intro w'; go_simp; with_reducible rfl⟩) (by simp only [Act.put, List.setIfInBounds_toArray, List.set_cons_zero, List.set_cons_succ, i64_w, i32_w]; rfl) ?_
        refine one_ (i := 1) (N := some 80) #[true, true, true, false, false, false, false, false, false, false, false, false, false, false, false, false, false, false, false, false, false, false, false, false, false, false, false, false, false, false, false, false] rfl rfl (one_of HT_.out (by kernel_rfl)) (by decide) (fun K hK => ?_)
        refine goes_ Try.func15 (by kernel_rfl) rfl #[.pointer (some ⟨g, 0, none⟩)] (by rfl) rfl rfl (by (try simp only [List.map_toArray, List.map_cons, List.map_nil]); first | done | rfl | (simp only [List.length_drop, List.length_take]; rfl)) ?_
        refine (@floor_calls (ZI (.slice A9 l2.length c9)) g ⟨ov, adj, pre, n, fl, ag, true⟩ _ D7.out.O).mono ?_
        rintro e w9 ⟨rfl, hb⟩
        refine ⟨_, rfl, ?_⟩
        replace D7 := Aside0.mk (D7.out.below hb)
        replace FA := Aside0.mk (ftA_keep FA.out (KeepBut.of_below hb g none))
        replace FP := Aside0.mk (ftP_keep FP.out (KeepBut.of_below hb g none))
        replace B15 := Aside0.mk (blk_below B15.out hb)
        clear hb
        refine hK.out _ _ ⟨(blk_cell B15.out 0).trans rfl, (blk_cell B15.out 1).trans rfl, (blk_cell B15.out 2).trans rfl, (blk_cell B15.out 3).trans rfl, (blk_cell B15.out 4).trans rfl, (blk_cell B15.out 5).trans rfl⟩ (fun hHeld => ?_)
        clear hK K
        refine norm_ (a' := ?_) ?_ ?_
        rotate_left
        · show Act.put _ (some 80) _ = _
          simp only [Act.put, List.setIfInBounds_toArray, List.set_cons_zero, List.set_cons_succ, i64_w, i32_w]
          rfl
        refine pz 3 82 HT_ rfl rfl (by kernel_rfl) (fun _ _ _ h => h) (Or.inl ⟨by rfl, by intro w'; go_simp; with_reducible rfl⟩) (by simp only [Act.put, List.setIfInBounds_toArray, List.set_cons_zero, List.set_cons_succ, i64_w, i32_w]; rfl) ?_
        try rw [qf]
        refine pz 4 83 HT_ rfl rfl (by kernel_rfl) (fun _ _ _ h => h) (Or.inl ⟨by rfl, by intro w'; go_simp; with_reducible rfl⟩) (by simp only [Act.put, List.setIfInBounds_toArray, List.set_cons_zero, List.set_cons_succ, i64_w, i32_w]; rfl) ?_
        refine pz 5 84 HT_ rfl rfl (by kernel_rfl) (fun _ _ _ h => h) (Or.inl ⟨by rfl, by intro w'; go_simp; with_reducible rfl⟩) (by simp only [Act.put, List.setIfInBounds_toArray, List.set_cons_zero, List.set_cons_succ, i64_w, i32_w]; rfl) ?_
        refine pz 6 85 HT_ rfl rfl (by kernel_rfl) (fun _ _ _ h => h) (Or.inl ⟨by rfl, by intro w'; go_simp; with_reducible rfl⟩) (by simp only [Act.put, List.setIfInBounds_toArray, List.set_cons_zero, List.set_cons_succ, i64_w, i32_w]; rfl) ?_
        refine pz (v := undef) 7 86 HT_ rfl rfl (by kernel_rfl) (fun _ _ _ h => h) (Or.inr ⟨by rfl, rfl⟩) (by simp only [Act.put, List.setIfInBounds_toArray, List.set_cons_zero, List.set_cons_succ, i64_w, i32_w]; rfl) ?_
        refine pz (v := undef) 8 87 HT_ rfl rfl (by kernel_rfl) (fun _ _ _ h => h) (Or.inr ⟨by rfl, rfl⟩) (by simp only [Act.put, List.setIfInBounds_toArray, List.set_cons_zero, List.set_cons_succ, i64_w, i32_w]; rfl) ?_
        refine pz 9 88 HT_ rfl rfl (by kernel_rfl) (fun _ _ _ h => h) (Or.inl ⟨by rfl, by intro w'; go_simp; with_reducible rfl⟩) (by simp only [Act.put, List.setIfInBounds_toArray, List.set_cons_zero, List.set_cons_succ, i64_w, i32_w]; rfl) ?_
        refine pz 10 89 HT_ rfl rfl (by kernel_rfl) (fun _ _ _ h => h) (Or.inl ⟨by rfl, by intro w'; go_simp; with_reducible rfl⟩) (by simp only [Act.put, List.setIfInBounds_toArray, List.set_cons_zero, List.set_cons_succ, i64_w, i32_w]; rfl) ?_
        refine pz 11 90 HT_ rfl rfl (by kernel_rfl) (fun _ _ _ h => h) (Or.inl ⟨by rfl, by intro w'; go_simp; with_reducible rfl⟩) (by simp only [Act.put, List.setIfInBounds_toArray, List.set_cons_zero, List.set_cons_succ, i64_w, i32_w]; rfl) ?_
        refine pz 12 91 HT_ rfl rfl (by kernel_rfl) (fun _ _ _ h => h) (Or.inl ⟨by rfl, by intro w'; go_simp; with_reducible rfl⟩) (by simp only [Act.put, List.setIfInBounds_toArray, List.set_cons_zero, List.set_cons_succ, i64_w, i32_w]; rfl) ?_
        refine pz 13 92 HT_ rfl rfl (by kernel_rfl) (fun _ _ _ h => h) (Or.inl ⟨by rfl, by intro w'; go_simp; with_reducible rfl⟩) (by simp only [Act.put, List.setIfInBounds_toArray, List.set_cons_zero, List.set_cons_succ, i64_w, i32_w]; rfl) ?_
        refine tz 14 93 HT_ HW_ rfl rfl (by kernel_rfl) (fun _ _ _ h => h) (Or.inl ⟨by rfl, by rintro w' ⟨s0, s1, s2, s3, s4, s5⟩; go_simp; with_reducible rfl⟩) hHeld (by simp only [Act.put, List.setIfInBounds_toArray, List.set_cons_zero, List.set_cons_succ, i64_w, i32_w]; rfl) ?_
        refine one_ (i := 15) (N := some 94) #[true, true, true, true, true, true, true, true, true, true, true, true, true, true, true, true, false, false, false, false, false, false, false, false, false, false, false, false, false, false, false, false] rfl rfl (one_of HT_.out (by kernel_rfl)) (by decide) (fun K hK => ?_)
        refine goes_ Try.func20 (by kernel_rfl) rfl #[.agg #[.int .i64 n, .int .i64 fl, .int .i64 ag, .bool ov, .slice P1 adj.length p1, .slice P2 pre.length p2]] (by rfl) rfl rfl (by (try simp only [List.map_toArray, List.map_cons, List.map_nil]); first | done | rfl | (simp only [List.length_drop, List.length_take]; rfl)) ?_
        refine (valid_c n fl ag ov VG.out (rdl_of FA.out FP.out)).mono ?_
        rintro e w10 ⟨rfl, hb⟩
        rw [decide_eq_true HV.out]
        refine ⟨_, rfl, ?_⟩
        replace D7 := Aside0.mk (D7.out.below hb)
        replace FA := Aside0.mk (ftA_keep FA.out (KeepBut.of_below hb g none))
        replace FP := Aside0.mk (ftP_keep FP.out (KeepBut.of_below hb g none))
        replace B15 := Aside0.mk (blk_below B15.out hb)
        clear hb
        refine hK.out _ _ ⟨(blk_cell B15.out 0).trans rfl, (blk_cell B15.out 1).trans rfl, (blk_cell B15.out 2).trans rfl, (blk_cell B15.out 3).trans rfl, (blk_cell B15.out 4).trans rfl, (blk_cell B15.out 5).trans rfl⟩ (fun hHeld => ?_)
        clear hK K
        refine norm_ (a' := ?_) ?_ ?_
        rotate_left
        · show Act.put _ (some 94) _ = _
          simp only [Act.put, List.setIfInBounds_toArray, List.set_cons_zero, List.set_cons_succ, i64_w, i32_w]
          rfl
        refine pz 16 95 HT_ rfl rfl (by kernel_rfl) (fun _ _ _ h => h) (Or.inl ⟨by rfl, by intro w'; go_simp; with_reducible rfl⟩) (by simp only [Act.put, List.setIfInBounds_toArray, List.set_cons_zero, List.set_cons_succ, i64_w, i32_w]; rfl) ?_
        refine pz 17 96 HT_ rfl rfl (by kernel_rfl) (fun _ _ _ h => h) (Or.inl ⟨by rfl, by intro w'; go_simp; with_reducible rfl⟩) (by simp only [Act.put, List.setIfInBounds_toArray, List.set_cons_zero, List.set_cons_succ, i64_w, i32_w]; rfl) ?_
        refine pz 18 97 HT_ rfl rfl (by kernel_rfl) (fun _ _ _ h => h) (Or.inl ⟨by rfl, by intro w'; go_simp; with_reducible rfl⟩) (by simp only [Act.put, List.setIfInBounds_toArray, List.set_cons_zero, List.set_cons_succ, i64_w, i32_w]; rfl) ?_
        refine pz 20 99 HT_ rfl rfl (by kernel_rfl) (fun _ _ _ h => h) (Or.inl ⟨by rfl, by intro w'; go_simp; with_reducible rfl⟩) (by simp only [Act.put, List.setIfInBounds_toArray, List.set_cons_zero, List.set_cons_succ, i64_w, i32_w]; rfl) ?_
        refine tz 19 98 HT_ HW_ rfl rfl (by kernel_rfl) (fun _ _ _ h => h) (Or.inl ⟨by rfl, by rintro w' ⟨s0, s1, s2, s3, s4, s5⟩; go_simp; with_reducible rfl⟩) hHeld (by simp only [Act.put, List.setIfInBounds_toArray, List.set_cons_zero, List.set_cons_succ, i64_w, i32_w]; rfl) ?_
        refine pz 21 100 HT_ rfl rfl (by kernel_rfl) (fun _ _ _ h => h) (Or.inl ⟨by rfl, by intro w'; go_simp; with_reducible rfl⟩) (by simp only [Act.put, List.setIfInBounds_toArray, List.set_cons_zero, List.set_cons_succ, i64_w, i32_w]; rfl) ?_
        refine pz 22 101 HT_ rfl rfl (by kernel_rfl) (fun _ _ _ h => h) (Or.inl ⟨by rfl, by intro w'; go_simp; with_reducible rfl⟩) (by simp only [Act.put, List.setIfInBounds_toArray, List.set_cons_zero, List.set_cons_succ, i64_w, i32_w]; rfl) ?_
        refine pz 23 102 HT_ rfl rfl (by kernel_rfl) (fun _ _ _ h => h) (Or.inl ⟨by rfl, by intro w'; go_simp; with_reducible rfl⟩) (by simp only [Act.put, List.setIfInBounds_toArray, List.set_cons_zero, List.set_cons_succ, i64_w, i32_w]; rfl) ?_
        refine pz 24 103 HT_ rfl rfl (by kernel_rfl) (fun _ _ _ h => h) (Or.inl ⟨by rfl, by intro w'; go_simp; with_reducible rfl⟩) (by simp only [Act.put, List.setIfInBounds_toArray, List.set_cons_zero, List.set_cons_succ, i64_w, i32_w]; rfl) ?_
        refine pz 26 105 HT_ rfl rfl (by kernel_rfl) (fun _ _ _ h => h) (Or.inl ⟨by rfl, by intro w'; go_simp; with_reducible rfl⟩) (by simp only [Act.put, List.setIfInBounds_toArray, List.set_cons_zero, List.set_cons_succ, i64_w, i32_w]; rfl) ?_
        refine tz 25 104 HT_ HW_ rfl rfl (by kernel_rfl) (fun _ _ _ h => h) (Or.inl ⟨by rfl, by rintro w' ⟨s0, s1, s2, s3, s4, s5⟩; go_simp; with_reducible rfl⟩) hHeld (by simp only [Act.put, List.setIfInBounds_toArray, List.set_cons_zero, List.set_cons_succ, i64_w, i32_w]; rfl) ?_
        refine one_ (i := 27) (N := some 106) #[true, true, true, true, true, true, true, true, true, true, true, true, true, true, true, true, true, true, true, true, true, true, true, true, true, true, true, true, false, false, false, false] rfl rfl (one_of HT_.out (by kernel_rfl)) (by decide) (fun K hK => ?_)
        refine goes_ Try.func15 (by kernel_rfl) rfl #[.pointer (some ⟨g, 0, none⟩)] (by rfl) rfl rfl (by (try simp only [List.map_toArray, List.map_cons, List.map_nil]); first | done | rfl | (simp only [List.length_drop, List.length_take]; rfl)) ?_
        refine (@floor_calls (ZI (.slice A9 l2.length c9)) g ⟨ov, adj, pre, n, fl, ag, true⟩ _ D7.out.O).mono ?_
        rintro e w11 ⟨rfl, hb⟩
        refine ⟨_, rfl, ?_⟩
        replace D7 := Aside0.mk (D7.out.below hb)
        replace FA := Aside0.mk (ftA_keep FA.out (KeepBut.of_below hb g none))
        replace FP := Aside0.mk (ftP_keep FP.out (KeepBut.of_below hb g none))
        replace B15 := Aside0.mk (blk_below B15.out hb)
        clear hb
        refine hK.out _ _ ⟨(blk_cell B15.out 0).trans rfl, (blk_cell B15.out 1).trans rfl, (blk_cell B15.out 2).trans rfl, (blk_cell B15.out 3).trans rfl, (blk_cell B15.out 4).trans rfl, (blk_cell B15.out 5).trans rfl⟩ (fun hHeld => ?_)
        clear hK K
        refine norm_ (a' := ?_) ?_ ?_
        rotate_left
        · show Act.put _ (some 106) _ = _
          simp only [Act.put, List.setIfInBounds_toArray, List.set_cons_zero, List.set_cons_succ, i64_w, i32_w]
          rfl
        refine pz 28 107 HT_ rfl rfl (by kernel_rfl) (fun _ _ _ h => h) (Or.inl ⟨by rfl, by intro w'; go_simp; with_reducible rfl⟩) (by simp only [Act.put, List.setIfInBounds_toArray, List.set_cons_zero, List.set_cons_succ, i64_w, i32_w]; rfl) ?_
        refine pz 29 108 HT_ rfl rfl (by kernel_rfl) (fun _ _ _ h => h) (Or.inl ⟨by rfl, by intro w'; go_simp; with_reducible rfl⟩) (by simp only [Act.put, List.setIfInBounds_toArray, List.set_cons_zero, List.set_cons_succ, i64_w, i32_w]; rfl) ?_
        refine pz 30 109 HT_ rfl rfl (by kernel_rfl) (fun _ _ _ h => h) (Or.inl ⟨by rfl, by intro w'; go_simp; with_reducible rfl⟩) (by simp only [Act.put, List.setIfInBounds_toArray, List.set_cons_zero, List.set_cons_succ, i64_w, i32_w]; rfl) ?_
        refine pz 31 110 HT_ rfl rfl (by kernel_rfl) (fun _ _ _ h => h) (Or.inl ⟨by rfl, by intro w'; go_simp; with_reducible rfl⟩) (by simp only [Act.put, List.setIfInBounds_toArray, List.set_cons_zero, List.set_cons_succ, i64_w, i32_w]; rfl) ?_
        refine done_ (done_of HT_.out (by kernel_rfl)) ?_
        clear HT_ HW_ hHeld
        go_wp2_with (
          first
          | ((with_reducible refine gate_callee (f := 15) rfl ?_); refine goesL_ (some 112) rfl rfl Try.func15 (by kernel_rfl) rfl #[.pointer (some ⟨g, 0, none⟩)] rfl (by (try simp only [List.map_toArray, List.map_cons, List.map_nil]); first | done | rfl | (simp only [List.length_drop, List.length_take]; rfl)) ?_; refine (@floor_calls (ZI (.slice A9 l2.length c9)) g ⟨ov, adj, pre, n, fl, ag, true⟩ _ D7.out.O).mono ?_; rintro e w13 ⟨rfl, hb⟩; refine ⟨_, rfl, ?_⟩; replace D7 := Aside0.mk (D7.out.below hb); replace FA := Aside0.mk (ftA_keep FA.out (KeepBut.of_below hb g none)); replace FP := Aside0.mk (ftP_keep FP.out (KeepBut.of_below hb g none)); replace B15 := Aside0.mk (blk_below B15.out hb); clear hb))
        go_loopw [16] (fun v16 wr => ∃ k : Int, v16 = .int .i64 k ∧ Aside0 (0 ≤ k ∧ k ≤ l2.length) ∧ Aside0 (GW w g wr ⟨ov, adj, pre, n, fl, ag, true⟩ (.slice A9 l2.length c9) l2) ∧ Aside0 (wr.heap[b14]? = some (.cells #[.int .i64 n, .int .i64 fl, .int .i64 ag, .bool ov, .slice P1 adj.length p1, .slice P2 pre.length p2] 32 (0, 0))) ∧ Aside0 (@FtA (ZI (.slice A9 l2.length c9)) wr g (.slice P1 adj.length p1) adj) ∧ Aside0 (@FtP (ZI (.slice A9 l2.length c9)) wr g (.slice P2 pre.length p2) pre)) (fun v16 _ => ((l2.length : Int) - intOf v16).toNat)
        case atStart => exact ⟨0, rfl, ⟨by omega, by omega⟩, D7, B15, FA, FP⟩
        case round =>
          clear D7 B15 FA FP
          obtain ⟨k, rfl, hk, D7, B15, FA, FP⟩ := hrel
          have k0 := hk.out.1
          have k1 := hk.out.2
          have z0 : (_ : World).cell? ⟨b14, 0, none⟩ = some (.int .i64 n) := (blk_cell B15.out 0).trans rfl; have zf0 := blk_frozen B15.out 0; have z1 : (_ : World).cell? ⟨b14, 1, none⟩ = some (.int .i64 fl) := (blk_cell B15.out 1).trans rfl; have zf1 := blk_frozen B15.out 1; have z2 : (_ : World).cell? ⟨b14, 2, none⟩ = some (.int .i64 ag) := (blk_cell B15.out 2).trans rfl; have zf2 := blk_frozen B15.out 2; have z3 : (_ : World).cell? ⟨b14, 3, none⟩ = some (.bool ov) := (blk_cell B15.out 3).trans rfl; have zf3 := blk_frozen B15.out 3; have z4 : (_ : World).cell? ⟨b14, 4, none⟩ = some (.slice P1 adj.length p1) := (blk_cell B15.out 4).trans rfl; have zf4 := blk_frozen B15.out 4; have z5 : (_ : World).cell? ⟨b14, 5, none⟩ = some (.slice P2 pre.length p2) := (blk_cell B15.out 5).trans rfl; have zf5 := blk_frozen B15.out 5
          by_cases ck : k < (l2.length : Int)
          rotate_left
          · go_wp2_with fail
            go_roundw
            case rel => exact ⟨_, i + 1, _, rfl, rfl, ⟨by omega, by omega⟩, IV1, ⟨fun a h => ⟨(VK1.out a h).1, (VK1.out a h).2.1⟩⟩, ⟨by have := HL1.out; omega⟩, D7⟩
            case measure => simp [intOf]; omega
          · go_wp2_with fail
            go_roundw
            case rel => exact ⟨_, i + 1, _, rfl, rfl, ⟨by omega, by omega⟩, IV1, ⟨fun a h => ⟨(VK1.out a h).1, (VK1.out a h).2.1⟩⟩, ⟨by have := HL1.out; omega⟩, D7⟩
            case measure => simp [intOf]; omega
      | true =>
        refine start_ (n := 32) (S := fun w' => w'.cell? ⟨b14, 0, none⟩ = some (.int .i64 n) ∧ w'.cell? ⟨b14, 1, none⟩ = some (.int .i64 fl) ∧ w'.cell? ⟨b14, 2, none⟩ = some (.int .i64 ag) ∧ w'.cell? ⟨b14, 3, none⟩ = some (.bool ov) ∧ w'.cell? ⟨b14, 4, none⟩ = some (.slice P1 adj.length p1) ∧ w'.cell? ⟨b14, 5, none⟩ = some (.slice P2 pre.length p2)) (ds := []) #[false, false, false, false, false, false, false, false, false, false, false, false, false, false, false, false, false, false, false, false, false, false, false, false, false, false, false, false, false, false, false, false] (by kernel_rfl) rfl rfl ⟨(blk_cell B15.out 0).trans rfl, (blk_cell B15.out 1).trans rfl, (blk_cell B15.out 2).trans rfl, (blk_cell B15.out 3).trans rfl, (blk_cell B15.out 4).trans rfl, (blk_cell B15.out 5).trans rfl⟩ (fun hHeld => ?_); refine with_tabW gg.tab26 gg.bits26 (fun HT_ HW_ => ?_)
        replace D7 := Aside0.mk (D7.out.below (below_drew (Below.refl _ _)))
        replace FA := Aside0.mk (ftA_keep FA.out (KeepBut.of_below (below_drew (Below.refl _ _)) g none))
        replace FP := Aside0.mk (ftP_keep FP.out (KeepBut.of_below (below_drew (Below.refl _ _)) g none))
        replace B15 := Aside0.mk (blk_below B15.out (below_drew (Below.refl _ _)))
        generalize w7.drew = w8 at D7 B15 FA FP hHeld ⊢
        refine pz 0 79 HT_ rfl rfl (by kernel_rfl) (fun _ _ _ h => h) (Or.inl ⟨by rfl, by intro w'; go_simp; with_reducible rfl⟩) (by simp only [Act.put, List.setIfInBounds_toArray, List.set_cons_zero, List.set_cons_succ, i64_w, i32_w]; rfl) ?_
        refine pz 2 81 HT_ rfl rfl (by kernel_rfl) (fun _ _ _ h => h) (Or.inl ⟨by rfl, by intro w'; go_simp; with_reducible rfl⟩) (by simp only [Act.put, List.setIfInBounds_toArray, List.set_cons_zero, List.set_cons_succ, i64_w, i32_w]; rfl) ?_
        refine one_ (i := 1) (N := some 80) #[true, true, true, false, false, false, false, false, false, false, false, false, false, false, false, false, false, false, false, false, false, false, false, false, false, false, false, false, false, false, false, false] rfl rfl (one_of HT_.out (by kernel_rfl)) (by decide) (fun K hK => ?_)
        refine goes_ Try.func15 (by kernel_rfl) rfl #[.pointer (some ⟨g, 0, none⟩)] (by rfl) rfl rfl (by (try simp only [List.map_toArray, List.map_cons, List.map_nil]); first | done | rfl | (simp only [List.length_drop, List.length_take]; rfl)) ?_
        refine (@floor_calls (ZI (.slice A9 l2.length c9)) g ⟨ov, adj, pre, n, fl, ag, true⟩ _ D7.out.O).mono ?_
        rintro e w9 ⟨rfl, hb⟩
        refine ⟨_, rfl, ?_⟩
        replace D7 := Aside0.mk (D7.out.below hb)
        replace FA := Aside0.mk (ftA_keep FA.out (KeepBut.of_below hb g none))
        replace FP := Aside0.mk (ftP_keep FP.out (KeepBut.of_below hb g none))
        replace B15 := Aside0.mk (blk_below B15.out hb)
        clear hb
        refine hK.out _ _ ⟨(blk_cell B15.out 0).trans rfl, (blk_cell B15.out 1).trans rfl, (blk_cell B15.out 2).trans rfl, (blk_cell B15.out 3).trans rfl, (blk_cell B15.out 4).trans rfl, (blk_cell B15.out 5).trans rfl⟩ (fun hHeld => ?_)
        clear hK K
        refine norm_ (a' := ?_) ?_ ?_
        rotate_left
        · show Act.put _ (some 80) _ = _
          simp only [Act.put, List.setIfInBounds_toArray, List.set_cons_zero, List.set_cons_succ, i64_w, i32_w]
          rfl
        refine pz 3 82 HT_ rfl rfl (by kernel_rfl) (fun _ _ _ h => h) (Or.inl ⟨by rfl, by intro w'; go_simp; with_reducible rfl⟩) (by simp only [Act.put, List.setIfInBounds_toArray, List.set_cons_zero, List.set_cons_succ, i64_w, i32_w]; rfl) ?_
        try rw [qf]
        refine pz 4 83 HT_ rfl rfl (by kernel_rfl) (fun _ _ _ h => h) (Or.inl ⟨by rfl, by intro w'; go_simp; with_reducible rfl⟩) (by simp only [Act.put, List.setIfInBounds_toArray, List.set_cons_zero, List.set_cons_succ, i64_w, i32_w]; rfl) ?_
        refine pz 5 84 HT_ rfl rfl (by kernel_rfl) (fun _ _ _ h => h) (Or.inl ⟨by rfl, by intro w'; go_simp; with_reducible rfl⟩) (by simp only [Act.put, List.setIfInBounds_toArray, List.set_cons_zero, List.set_cons_succ, i64_w, i32_w]; rfl) ?_
        refine pz 6 85 HT_ rfl rfl (by kernel_rfl) (fun _ _ _ h => h) (Or.inl ⟨by rfl, by intro w'; go_simp; with_reducible rfl⟩) (by simp only [Act.put, List.setIfInBounds_toArray, List.set_cons_zero, List.set_cons_succ, i64_w, i32_w]; rfl) ?_
        refine pz 7 86 HT_ rfl rfl (by kernel_rfl) (fun _ _ _ h => h) (Or.inl ⟨by rfl, by intro w'; go_simp; with_reducible rfl⟩) (by simp only [Act.put, List.setIfInBounds_toArray, List.set_cons_zero, List.set_cons_succ, i64_w, i32_w]; rfl) ?_
        refine pz 8 87 HT_ rfl rfl (by kernel_rfl) (fun _ _ _ h => h) (Or.inl ⟨by rfl, by intro w'; go_simp; with_reducible rfl⟩) (by simp only [Act.put, List.setIfInBounds_toArray, List.set_cons_zero, List.set_cons_succ, i64_w, i32_w]; rfl) ?_
        refine pz 9 88 HT_ rfl rfl (by kernel_rfl) (fun _ _ _ h => h) (Or.inl ⟨by rfl, by intro w'; go_simp; with_reducible rfl⟩) (by simp only [Act.put, List.setIfInBounds_toArray, List.set_cons_zero, List.set_cons_succ, i64_w, i32_w]; rfl) ?_
        refine pz 10 89 HT_ rfl rfl (by kernel_rfl) (fun _ _ _ h => h) (Or.inl ⟨by rfl, by intro w'; go_simp; with_reducible rfl⟩) (by simp only [Act.put, List.setIfInBounds_toArray, List.set_cons_zero, List.set_cons_succ, i64_w, i32_w]; rfl) ?_
        refine pz 11 90 HT_ rfl rfl (by kernel_rfl) (fun _ _ _ h => h) (Or.inl ⟨by rfl, by intro w'; go_simp; with_reducible rfl⟩) (by simp only [Act.put, List.setIfInBounds_toArray, List.set_cons_zero, List.set_cons_succ, i64_w, i32_w]; rfl) ?_
        refine pz 12 91 HT_ rfl rfl (by kernel_rfl) (fun _ _ _ h => h) (Or.inl ⟨by rfl, by intro w'; go_simp; with_reducible rfl⟩) (by simp only [Act.put, List.setIfInBounds_toArray, List.set_cons_zero, List.set_cons_succ, i64_w, i32_w]; rfl) ?_
        refine pz 13 92 HT_ rfl rfl (by kernel_rfl) (fun _ _ _ h => h) (Or.inl ⟨by rfl, by intro w'; go_simp; with_reducible rfl⟩) (by simp only [Act.put, List.setIfInBounds_toArray, List.set_cons_zero, List.set_cons_succ, i64_w, i32_w]; rfl) ?_
        refine tz 14 93 HT_ HW_ rfl rfl (by kernel_rfl) (fun _ _ _ h => h) (Or.inl ⟨by rfl, by rintro w' ⟨s0, s1, s2, s3, s4, s5⟩; go_simp; with_reducible rfl⟩) hHeld (by simp only [Act.put, List.setIfInBounds_toArray, List.set_cons_zero, List.set_cons_succ, i64_w, i32_w]; rfl) ?_
        refine one_ (i := 15) (N := some 94) #[true, true, true, true, true, true, true, true, true, true, true, true, true, true, true, true, false, false, false, false, false, false, false, false, false, false, false, false, false, false, false, false] rfl rfl (one_of HT_.out (by kernel_rfl)) (by decide) (fun K hK => ?_)
        refine goes_ Try.func20 (by kernel_rfl) rfl #[.agg #[.int .i64 n, .int .i64 fl, .int .i64 ag, .bool ov, .slice P1 adj.length p1, .slice P2 pre.length p2]] (by rfl) rfl rfl (by (try simp only [List.map_toArray, List.map_cons, List.map_nil]); first | done | rfl | (simp only [List.length_drop, List.length_take]; rfl)) ?_
        refine (valid_c n fl ag ov VG.out (rdl_of FA.out FP.out)).mono ?_
        rintro e w10 ⟨rfl, hb⟩
        rw [decide_eq_true HV.out]
        refine ⟨_, rfl, ?_⟩
        replace D7 := Aside0.mk (D7.out.below hb)
        replace FA := Aside0.mk (ftA_keep FA.out (KeepBut.of_below hb g none))
        replace FP := Aside0.mk (ftP_keep FP.out (KeepBut.of_below hb g none))
        replace B15 := Aside0.mk (blk_below B15.out hb)
        clear hb
        refine hK.out _ _ ⟨(blk_cell B15.out 0).trans rfl, (blk_cell B15.out 1).trans rfl, (blk_cell B15.out 2).trans rfl, (blk_cell B15.out 3).trans rfl, (blk_cell B15.out 4).trans rfl, (blk_cell B15.out 5).trans rfl⟩ (fun hHeld => ?_)
        clear hK K
        refine norm_ (a' := ?_) ?_ ?_
        rotate_left
        · show Act.put _ (some 94) _ = _
          simp only [Act.put, List.setIfInBounds_toArray, List.set_cons_zero, List.set_cons_succ, i64_w, i32_w]
          rfl
        refine pz 16 95 HT_ rfl rfl (by kernel_rfl) (fun _ _ _ h => h) (Or.inl ⟨by rfl, by intro w'; go_simp; with_reducible rfl⟩) (by simp only [Act.put, List.setIfInBounds_toArray, List.set_cons_zero, List.set_cons_succ, i64_w, i32_w]; rfl) ?_
        refine pz 17 96 HT_ rfl rfl (by kernel_rfl) (fun _ _ _ h => h) (Or.inl ⟨by rfl, by intro w'; go_simp; with_reducible rfl⟩) (by simp only [Act.put, List.setIfInBounds_toArray, List.set_cons_zero, List.set_cons_succ, i64_w, i32_w]; rfl) ?_
        refine pz 18 97 HT_ rfl rfl (by kernel_rfl) (fun _ _ _ h => h) (Or.inl ⟨by rfl, by intro w'; go_simp; with_reducible rfl⟩) (by simp only [Act.put, List.setIfInBounds_toArray, List.set_cons_zero, List.set_cons_succ, i64_w, i32_w]; rfl) ?_
        refine pz 20 99 HT_ rfl rfl (by kernel_rfl) (fun _ _ _ h => h) (Or.inl ⟨by rfl, by intro w'; go_simp; with_reducible rfl⟩) (by simp only [Act.put, List.setIfInBounds_toArray, List.set_cons_zero, List.set_cons_succ, i64_w, i32_w]; rfl) ?_
        refine tz 19 98 HT_ HW_ rfl rfl (by kernel_rfl) (fun _ _ _ h => h) (Or.inl ⟨by rfl, by rintro w' ⟨s0, s1, s2, s3, s4, s5⟩; go_simp; with_reducible rfl⟩) hHeld (by simp only [Act.put, List.setIfInBounds_toArray, List.set_cons_zero, List.set_cons_succ, i64_w, i32_w]; rfl) ?_
        refine pz 21 100 HT_ rfl rfl (by kernel_rfl) (fun _ _ _ h => h) (Or.inl ⟨by rfl, by intro w'; go_simp; with_reducible rfl⟩) (by simp only [Act.put, List.setIfInBounds_toArray, List.set_cons_zero, List.set_cons_succ, i64_w, i32_w]; rfl) ?_
        refine pz 22 101 HT_ rfl rfl (by kernel_rfl) (fun _ _ _ h => h) (Or.inl ⟨by rfl, by intro w'; go_simp; with_reducible rfl⟩) (by simp only [Act.put, List.setIfInBounds_toArray, List.set_cons_zero, List.set_cons_succ, i64_w, i32_w]; rfl) ?_
        refine pz 23 102 HT_ rfl rfl (by kernel_rfl) (fun _ _ _ h => h) (Or.inl ⟨by rfl, by intro w'; go_simp; with_reducible rfl⟩) (by simp only [Act.put, List.setIfInBounds_toArray, List.set_cons_zero, List.set_cons_succ, i64_w, i32_w]; rfl) ?_
        refine pz 24 103 HT_ rfl rfl (by kernel_rfl) (fun _ _ _ h => h) (Or.inl ⟨by rfl, by intro w'; go_simp; with_reducible rfl⟩) (by simp only [Act.put, List.setIfInBounds_toArray, List.set_cons_zero, List.set_cons_succ, i64_w, i32_w]; rfl) ?_
        refine pz 26 105 HT_ rfl rfl (by kernel_rfl) (fun _ _ _ h => h) (Or.inl ⟨by rfl, by intro w'; go_simp; with_reducible rfl⟩) (by simp only [Act.put, List.setIfInBounds_toArray, List.set_cons_zero, List.set_cons_succ, i64_w, i32_w]; rfl) ?_
        refine tz 25 104 HT_ HW_ rfl rfl (by kernel_rfl) (fun _ _ _ h => h) (Or.inl ⟨by rfl, by rintro w' ⟨s0, s1, s2, s3, s4, s5⟩; go_simp; with_reducible rfl⟩) hHeld (by simp only [Act.put, List.setIfInBounds_toArray, List.set_cons_zero, List.set_cons_succ, i64_w, i32_w]; rfl) ?_
        refine one_ (i := 27) (N := some 106) #[true, true, true, true, true, true, true, true, true, true, true, true, true, true, true, true, true, true, true, true, true, true, true, true, true, true, true, true, false, false, false, false] rfl rfl (one_of HT_.out (by kernel_rfl)) (by decide) (fun K hK => ?_)
        refine goes_ Try.func15 (by kernel_rfl) rfl #[.pointer (some ⟨g, 0, none⟩)] (by rfl) rfl rfl (by (try simp only [List.map_toArray, List.map_cons, List.map_nil]); first | done | rfl | (simp only [List.length_drop, List.length_take]; rfl)) ?_
        refine (@floor_calls (ZI (.slice A9 l2.length c9)) g ⟨ov, adj, pre, n, fl, ag, true⟩ _ D7.out.O).mono ?_
        rintro e w11 ⟨rfl, hb⟩
        refine ⟨_, rfl, ?_⟩
        replace D7 := Aside0.mk (D7.out.below hb)
        replace FA := Aside0.mk (ftA_keep FA.out (KeepBut.of_below hb g none))
        replace FP := Aside0.mk (ftP_keep FP.out (KeepBut.of_below hb g none))
        replace B15 := Aside0.mk (blk_below B15.out hb)
        clear hb
        refine hK.out _ _ ⟨(blk_cell B15.out 0).trans rfl, (blk_cell B15.out 1).trans rfl, (blk_cell B15.out 2).trans rfl, (blk_cell B15.out 3).trans rfl, (blk_cell B15.out 4).trans rfl, (blk_cell B15.out 5).trans rfl⟩ (fun hHeld => ?_)
        clear hK K
        refine norm_ (a' := ?_) ?_ ?_
        rotate_left
        · show Act.put _ (some 106) _ = _
          simp only [Act.put, List.setIfInBounds_toArray, List.set_cons_zero, List.set_cons_succ, i64_w, i32_w]
          rfl
        refine pz 28 107 HT_ rfl rfl (by kernel_rfl) (fun _ _ _ h => h) (Or.inl ⟨by rfl, by intro w'; go_simp; with_reducible rfl⟩) (by simp only [Act.put, List.setIfInBounds_toArray, List.set_cons_zero, List.set_cons_succ, i64_w, i32_w]; rfl) ?_
        refine pz 29 108 HT_ rfl rfl (by kernel_rfl) (fun _ _ _ h => h) (Or.inl ⟨by rfl, by intro w'; go_simp; with_reducible rfl⟩) (by simp only [Act.put, List.setIfInBounds_toArray, List.set_cons_zero, List.set_cons_succ, i64_w, i32_w]; rfl) ?_
        refine pz 30 109 HT_ rfl rfl (by kernel_rfl) (fun _ _ _ h => h) (Or.inl ⟨by rfl, by intro w'; go_simp; with_reducible rfl⟩) (by simp only [Act.put, List.setIfInBounds_toArray, List.set_cons_zero, List.set_cons_succ, i64_w, i32_w]; rfl) ?_
        refine pz 31 110 HT_ rfl rfl (by kernel_rfl) (fun _ _ _ h => h) (Or.inl ⟨by rfl, by intro w'; go_simp; with_reducible rfl⟩) (by simp only [Act.put, List.setIfInBounds_toArray, List.set_cons_zero, List.set_cons_succ, i64_w, i32_w]; rfl) ?_
        refine done_ (done_of HT_.out (by kernel_rfl)) ?_
        clear HT_ HW_ hHeld
        go_wp2_with (
          first
          | ((with_reducible refine gate_callee (f := 15) rfl ?_); refine goesL_ (some 112) rfl rfl Try.func15 (by kernel_rfl) rfl #[.pointer (some ⟨g, 0, none⟩)] rfl (by (try simp only [List.map_toArray, List.map_cons, List.map_nil]); first | done | rfl | (simp only [List.length_drop, List.length_take]; rfl)) ?_; refine (@floor_calls (ZI (.slice A9 l2.length c9)) g ⟨ov, adj, pre, n, fl, ag, true⟩ _ D7.out.O).mono ?_; rintro e w13 ⟨rfl, hb⟩; refine ⟨_, rfl, ?_⟩; replace D7 := Aside0.mk (D7.out.below hb); replace FA := Aside0.mk (ftA_keep FA.out (KeepBut.of_below hb g none)); replace FP := Aside0.mk (ftP_keep FP.out (KeepBut.of_below hb g none)); replace B15 := Aside0.mk (blk_below B15.out hb); clear hb))
        go_loopw [16] (fun v16 wr => ∃ k : Int, v16 = .int .i64 k ∧ Aside0 (0 ≤ k ∧ k ≤ l2.length) ∧ Aside0 (GW w g wr ⟨ov, adj, pre, n, fl, ag, true⟩ (.slice A9 l2.length c9) l2) ∧ Aside0 (wr.heap[b14]? = some (.cells #[.int .i64 n, .int .i64 fl, .int .i64 ag, .bool ov, .slice P1 adj.length p1, .slice P2 pre.length p2] 32 (0, 0))) ∧ Aside0 (@FtA (ZI (.slice A9 l2.length c9)) wr g (.slice P1 adj.length p1) adj) ∧ Aside0 (@FtP (ZI (.slice A9 l2.length c9)) wr g (.slice P2 pre.length p2) pre)) (fun v16 _ => ((l2.length : Int) - intOf v16).toNat)
        case atStart => exact ⟨0, rfl, ⟨by omega, by omega⟩, D7, B15, FA, FP⟩
        case round =>
          clear D7 B15 FA FP
          obtain ⟨k, rfl, hk, D7, B15, FA, FP⟩ := hrel
          have k0 := hk.out.1
          have k1 := hk.out.2
          have z0 : (_ : World).cell? ⟨b14, 0, none⟩ = some (.int .i64 n) := (blk_cell B15.out 0).trans rfl; have zf0 := blk_frozen B15.out 0; have z1 : (_ : World).cell? ⟨b14, 1, none⟩ = some (.int .i64 fl) := (blk_cell B15.out 1).trans rfl; have zf1 := blk_frozen B15.out 1; have z2 : (_ : World).cell? ⟨b14, 2, none⟩ = some (.int .i64 ag) := (blk_cell B15.out 2).trans rfl; have zf2 := blk_frozen B15.out 2; have z3 : (_ : World).cell? ⟨b14, 3, none⟩ = some (.bool ov) := (blk_cell B15.out 3).trans rfl; have zf3 := blk_frozen B15.out 3; have z4 : (_ : World).cell? ⟨b14, 4, none⟩ = some (.slice P1 adj.length p1) := (blk_cell B15.out 4).trans rfl; have zf4 := blk_frozen B15.out 4; have z5 : (_ : World).cell? ⟨b14, 5, none⟩ = some (.slice P2 pre.length p2) := (blk_cell B15.out 5).trans rfl; have zf5 := blk_frozen B15.out 5
          by_cases ck : k < (l2.length : Int)
          rotate_left
          · go_wp2_with (
              first
              | ((with_reducible refine gate_builtin (b := .append) (xs := #[.tmp 130, .tmp 132]) rfl ?_); at_builtin; refine OwnRow.append (R := KE g (.slice A9 l2.length c9) _) (w0 := w) w.heap.size rfl (.tmp 130) (.tmp 132) 45 32 (.agg #[.int .i64 0, .int .i64 0, .int .i64 0, .bool false, .slice none 0 0, .slice none 0 0]) 6 80 rfl (by kernel_rfl) (by kernel_rfl) rfl (by decide) (by decide) (.slice A9 l2.length c9) l2 (⟨n, fl, ag, ov, adj, pre⟩ : L) [.int .i64 n, .int .i64 fl, .int .i64 ag, .bool ov, .slice P1 adj.length p1, .slice P2 pre.length p2] rfl rfl (⟨_, _, rfl, FA.out, FP.out⟩) rfl (by intro u hu; simp only [List.mem_cons, List.not_mem_nil, or_false] at hu; rcases hu with rfl | rfl | rfl | rfl | rfl | rfl <;> rfl) D7.out.K D7.out.HB D7.out.HB.size (by have := HL1.out; have := hl15; omega) ?_; intro v9 w9 hown hb hg hat; have D9 := Aside0.mk (D7.out.app hown hb hg hat); clear hown hb hg hat))
            go_roundw
            case rel =>
              refine ⟨_, i + 1, _, rfl, rfl, ⟨by omega, by omega⟩, IV1, ⟨fun a h => ?_⟩, ⟨?_⟩, D9⟩
              · rcases List.mem_append.1 h with h | h
                · exact ⟨(VK1.out a h).1, (VK1.out a h).2.1⟩
                · obtain rfl := List.mem_singleton.1 h
                  exact ⟨HV.out, Int.le_refl _⟩
              · have := HL1.out
                simp only [List.length_append, List.length_singleton]
                omega
            case measure => simp [intOf]; omega
          obtain ⟨ad2, c2, E1, e1, E2, e2, a, ham, hv, hcl, RE, y0, y1, y2, y3, y4, y5⟩ := D7.out.at_ k k0 ck
          obtain ⟨hA, hc⟩ : A9 = some ad2 ∧ c9 = c2 := by
            injection hv with h1 _ h3
            exact ⟨h1, h3⟩
          subst hA hc
          have RE' := Aside0.mk RE
          clear RE hv hcl
          have VE := Aside0.mk (VK1.out a ham)
          clear ham
          have hnw : newer (⟨n, fl, ag, ov, adj, pre⟩ : L) a = 1 := newer_lt HV.out VE.out.1 (VE.out.2.2 (by simp))
          have HN := Aside0.mk hnw
          clear hnw
          go_upto_region 32 with (fail)
          refine start_ (n := 7) (S := fun w' => (w'.cell? ⟨b14, 0, none⟩ = some (.int .i64 n) ∧ w'.cell? ⟨b14, 1, none⟩ = some (.int .i64 fl) ∧ w'.cell? ⟨b14, 2, none⟩ = some (.int .i64 ag) ∧ w'.cell? ⟨b14, 3, none⟩ = some (.bool ov) ∧ w'.cell? ⟨b14, 4, none⟩ = some (.slice P1 adj.length p1) ∧ w'.cell? ⟨b14, 5, none⟩ = some (.slice P2 pre.length p2)) ∧ w'.cell? (ad2.add (k.toNat * 6)) = some (.int .i64 a.o) ∧ w'.cell? ⟨(ad2.add (k.toNat * 6)).block, (ad2.add (k.toNat * 6)).off + 1, none⟩ = some (.int .i64 a.s) ∧ w'.cell? ⟨(ad2.add (k.toNat * 6)).block, (ad2.add (k.toNat * 6)).off + 2, none⟩ = some (.int .i64 a.age) ∧ w'.cell? ⟨(ad2.add (k.toNat * 6)).block, (ad2.add (k.toNat * 6)).off + 3, none⟩ = some (.bool a.ov) ∧ w'.cell? ⟨(ad2.add (k.toNat * 6)).block, (ad2.add (k.toNat * 6)).off + 4, none⟩ = some (.slice E1 a.ad.length e1) ∧ w'.cell? ⟨(ad2.add (k.toNat * 6)).block, (ad2.add (k.toNat * 6)).off + 5, none⟩ = some (.slice E2 a.pf.length e2)) (ds := [5]) #[false, false, false, false, false, false, false] (by kernel_rfl) rfl rfl ⟨⟨(blk_cell B15.out 0).trans rfl, (blk_cell B15.out 1).trans rfl, (blk_cell B15.out 2).trans rfl, (blk_cell B15.out 3).trans rfl, (blk_cell B15.out 4).trans rfl, (blk_cell B15.out 5).trans rfl⟩, y0, y1, y2, y3, y4, y5⟩ (fun hHeld => ?_); refine with_tabW gg.tab32 gg.bits32 (fun HT_ HW_ => ?_)
          replace D7 := Aside0.mk (D7.out.below (below_drew (Below.refl _ _)))
          replace FA := Aside0.mk (ftA_keep FA.out (KeepBut.of_below (below_drew (Below.refl _ _)) g none))
          replace FP := Aside0.mk (ftP_keep FP.out (KeepBut.of_below (below_drew (Below.refl _ _)) g none))
          replace B15 := Aside0.mk (blk_below B15.out (below_drew (Below.refl _ _)))
          replace RE' := Aside0.mk (RE'.out.below (below_drew (Below.refl _ _)))
          clear z0 z1 z2 z3 z4 z5 zf0 zf1 zf2 zf3 zf4 zf5 y0 y1 y2 y3 y4 y5
          have p1_ := eq_true k0
          have p2_ := eq_true ck
          refine pz 1 123 HT_ rfl rfl (by kernel_rfl) (fun _ _ _ h => h) (Or.inl ⟨by rfl, by intro w'; go_simp; with_reducible rfl⟩) (by simp only [Act.put, List.setIfInBounds_toArray, List.set_cons_zero, List.set_cons_succ, i64_w, i32_w]; rfl) ?_
          refine pz 2 124 HT_ rfl rfl (by kernel_rfl) (fun _ _ _ h => h) (Or.inl ⟨by rfl, by intro w'; go_simp; with_reducible rfl⟩) (by simp only [Act.put, List.setIfInBounds_toArray, List.set_cons_zero, List.set_cons_succ, i64_w, i32_w]; rfl) ?_
          refine tz 0 122 HT_ HW_ rfl rfl (by kernel_rfl) (fun _ _ _ h => h) (Or.inl ⟨by rfl, by rintro w' ⟨⟨s0, s1, s2, s3, s4, s5⟩, t0, t1, t2, t3, t4, t5⟩; go_simp; with_reducible rfl⟩) hHeld (by simp only [Act.put, List.setIfInBounds_toArray, List.set_cons_zero, List.set_cons_succ, i64_w, i32_w]; rfl) ?_
          refine tz 3 125 HT_ HW_ rfl rfl (by kernel_rfl) (fun _ _ _ h => h) (Or.inl ⟨by rfl, by rintro w' ⟨⟨s0, s1, s2, s3, s4, s5⟩, t0, t1, t2, t3, t4, t5⟩; go_simp; with_reducible rfl⟩) hHeld (by simp only [Act.put, List.setIfInBounds_toArray, List.set_cons_zero, List.set_cons_succ, i64_w, i32_w]; rfl) ?_
          refine tz 4 126 HT_ HW_ rfl rfl (by kernel_rfl) (fun _ _ _ h => h) (Or.inl ⟨by rfl, by rintro w' ⟨⟨s0, s1, s2, s3, s4, s5⟩, t0, t1, t2, t3, t4, t5⟩; go_simp; with_reducible rfl⟩) hHeld (by simp only [Act.put, List.setIfInBounds_toArray, List.set_cons_zero, List.set_cons_succ, i64_w, i32_w]; rfl) ?_
          refine last_ (i := 5) (N := some 127) #[true, true, true, true, true, true, false] rfl rfl (one_of HT_.out (by kernel_rfl)) (by decide) (fun K hK => ?_)
          refine goes_ Try.func21 (by kernel_rfl) rfl #[.agg #[.int .i64 n, .int .i64 fl, .int .i64 ag, .bool ov, .slice P1 adj.length p1, .slice P2 pre.length p2], .agg #[.int .i64 a.o, .int .i64 a.s, .int .i64 a.age, .bool a.ov, .slice E1 a.ad.length e1, .slice E2 a.pf.length e2]] (by rfl) rfl rfl (by (try simp only [List.map_toArray, List.map_cons, List.map_nil]); first | done | rfl | (simp only [List.length_drop, List.length_take]; rfl)) ?_
          refine (newer_c n fl ag a.o a.s a.age ov a.ov VG.out (valid_g VE.out.1) (rdl_of FA.out FP.out) RE'.out).mono ?_
          rintro e w14 ⟨rfl, hb⟩
          rw [HN.out]
          refine ⟨_, rfl, ?_⟩
          replace D7 := Aside0.mk (D7.out.below hb)
          replace FA := Aside0.mk (ftA_keep FA.out (KeepBut.of_below hb g none))
          replace FP := Aside0.mk (ftP_keep FP.out (KeepBut.of_below hb g none))
          replace B15 := Aside0.mk (blk_below B15.out hb)
          clear hb
          refine hK.out _ _ ?_
          clear hK K
          refine norm_ (a' := ?_) ?_ ?_
          rotate_left
          · show Act.put _ (some 127) _ = _
            simp only [Act.put, List.setIfInBounds_toArray, List.set_cons_zero, List.set_cons_succ, i64_w, i32_w]
            rfl
          refine pz 6 128 HT_ rfl rfl (by kernel_rfl) (fun _ _ _ h => h) (Or.inl ⟨by rfl, by intro w'; go_simp; with_reducible rfl⟩) (by simp only [Act.put, List.setIfInBounds_toArray, List.set_cons_zero, List.set_cons_succ, i64_w, i32_w]; rfl) ?_
          refine done_ (done_of HT_.out (by kernel_rfl)) ?_
          clear HT_ HW_ hHeld
          go_wp2_with fail
          go_roundw
          case rel => exact ⟨k + 1, rfl, ⟨by omega, by omega⟩, D7, B15, FA, FP⟩
          case measure => simp [intOf]; omega
end Go.Proofs.Ytdkfhlfojleejaa.HLsc
