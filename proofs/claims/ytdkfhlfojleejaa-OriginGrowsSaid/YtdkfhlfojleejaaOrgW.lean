/-
  Chapter 36: the methods of an originator, told by plain functions; a nil pointer; the example of the document.
-/
import Derived.Test.YtdkfhlfojleejaaOrgE
import Derived.Test.YtdkfhlfojleejaaLsaO
import Derived.Test.YtdkfhlfojleejaaLsaL
import Derived.Test.YtdkfhlfojleejaaHLscx3
namespace Go.Proofs.Ytdkfhlfojleejaa.HLsc
open Go.RowKit Go.Proofs.YtdkfhlfojleejaaW.PrintWords Go.Proofs.YtdkfhlfojleejaaW.PrintLast Go.Proofs.YtdkfhlfojleejaaW.PrintMore
open Go.Proofs.Ytdkfhlfojleejaa.LM Go.Proofs.Ytdkfhlfojleejaa.LS
attribute [local go_sem] gtr_str leq_str max2_int min2_int max_two min_two max_three min_three max_four min_four
set_option linter.unusedVariables false
set_option linter.unusedSimpArgs false
set_option linter.unusedSectionVars false
section
variable [ZZ]
/-- What Set and Hear come to. -/
def OS.setP (s : OS) (ov : Bool) (la : List AD) (lp : List PF) : OS × Bool × Int := s.set ov la lp (decide (VL s.node 1 0 ov la lp)) (decide (Sm ⟨s.node, 1, 0, ov, la, lp⟩ ⟨s.node, 1, 0, s.ov, s.adj, s.pre⟩))
def OS.hearP (s : OS) (a : L) : OS × Bool × Int := s.hear a.o a.s (decide (Valid a)) (newer a ⟨s.node, s.floor, s.age, s.ov, s.adj, s.pre⟩)
theorem setP_calls (g : Nat) (s : OS) (ov : Bool) (v1 v2 : Value) (la : List AD) (lp : List PF) (w : World) (hO : Orig w g s) (h1 : RdA w v1 la) (h2 : RdP w v2 lp)
    (hla : la.length ≤ 1000) (hlp : lp.length ≤ 1000) (ha : s.adj.length ≤ 1000) (hp : s.pre.length ≤ 1000) (hG : G32 lp) :
    Calls Try.prog 16 #[.pointer (some ⟨g, 0, none⟩), .agg #[.bool ov, v1, v2]] w fun e w' => e = .returned (.tuple #[.bool (s.setP ov la lp).2.1, .int .i64 (s.setP ov la lp).2.2]) ∧ Orig w' g (s.setP ov la lp).1 ∧ Mut g w w' :=
  set_calls g s ov v1 v2 la lp _ _ 2000 2000 w hO h1 h2 (by omega) (by omega) (by omega) (by omega) (valid_eq 2000 s.node 1 0 ov la lp hG (by omega)) (fun _ _ => same_eq 2000 ⟨s.node, 1, 0, ov, la, lp⟩ ⟨s.node, 1, 0, s.ov, s.adj, s.pre⟩ hla hlp (by omega))
theorem hearP_calls (g : Nat) (s : OS) (a : L) (v1 v2 : Value) (w : World) (hO : Orig w g s) (h1 : RdA w v1 a.ad) (h2 : RdP w v2 a.pf) (ha : s.adj.length ≤ 1000) (hp : s.pre.length ≤ 1000) (hG : G32 a.pf) (hG2 : G32 s.pre) :
    Calls Try.prog 18 #[.pointer (some ⟨g, 0, none⟩), LSAv a.o a.s a.age a.ov v1 v2] w fun e w' => e = .returned (.tuple #[.bool (s.hearP a).2.1, .int .i64 (s.hearP a).2.2]) ∧ Orig w' g (s.hearP a).1 ∧ Mut g w w' := by
  obtain ⟨k, hk⟩ : ∃ k : Nat, k = 100000001 := ⟨_, rfl⟩
  exact hear_calls g s a.o a.s a.age a.ov v1 v2 a.ad a.pf _ _ 2000 k w hO h1 h2 (by omega) (by omega) (valid_eq 2000 a.o a.s a.age a.ov a.ad a.pf hG (by omega)) (fun _ _ _ => newer_eq k a ⟨s.node, s.floor, s.age, s.ov, s.adj, s.pre⟩ hG hG2 (by omega))
end
set_option maxHeartbeats 8000000 in
set_option maxRecDepth 100000 in
theorem set_nil (ov : Bool) (A1 A2 : Option Addr) (n1 c1 n2 c2 : Nat) (w : World) :
    Calls Try.prog 16 #[.pointer none, .agg #[.bool ov, .slice A1 n1 c1, .slice A2 n2 c2]] w fun e w' => e = .returned (.tuple #[.bool false, .int .i64 7]) ∧ Below w.heap.size w w' := by
  have hu := Try.underlying49
  go_enter Try.func16, Try.ntmps16
  go_wp2_with (
    first
    | ((with_reducible refine gate_dst (N := 3) rfl ?_); refine box_event ?hg (N := 3) ?hd (cs := #[.bool ov, .slice A1 n1 c1, .slice A2 n2 c2]) (t := 49) ?hr ?_; (case hd => rfl); (case hg => rfl); (case hr => first | (go_simp; done) | (go_simp; rfl)); intro b3 hg wa hbox hb; have HB := Aside0.mk hb; clear hbox hb hg))
  go_ret2
  exact ⟨rfl, HB.out⟩
set_option maxHeartbeats 8000000 in
set_option maxRecDepth 100000 in
theorem hear_nil (a0 a1 a2 : Int) (a3 : Bool) (A1 A2 : Option Addr) (n1 c1 n2 c2 : Nat) (w : World) :
    Calls Try.prog 18 #[.pointer none, .agg #[.int .i64 a0, .int .i64 a1, .int .i64 a2, .bool a3, .slice A1 n1 c1, .slice A2 n2 c2]] w fun e w' => e = .returned (.tuple #[.bool false, .int .i64 7]) ∧ Below w.heap.size w w' := by
  have hu := Try.underlying32
  go_enter Try.func18, Try.ntmps18
  go_wp2_with (
    first
    | ((with_reducible refine gate_dst (N := 3) rfl ?_); refine box_event ?hg (N := 3) ?hd (cs := #[.int .i64 a0, .int .i64 a1, .int .i64 a2, .bool a3, .slice A1 n1 c1, .slice A2 n2 c2]) (t := 32) ?hr ?_; (case hd => rfl); (case hg => rfl); (case hr => first | (go_simp; done) | (go_simp; rfl)); intro b3 hg wa hbox hb; have HB := Aside0.mk hb; clear hbox hb hg))
  go_ret2
  exact ⟨rfl, HB.out⟩
set_option maxHeartbeats 8000000 in
set_option maxRecDepth 100000 in
theorem contents_calls (a0 a1 a2 : Int) (a3 : Bool) (A1 A2 : Option Addr) (n1 c1 n2 c2 : Nat) (w : World) :
    Calls Try.prog 17 #[.agg #[.int .i64 a0, .int .i64 a1, .int .i64 a2, .bool a3, .slice A1 n1 c1, .slice A2 n2 c2]] w fun e w' => e = .returned (.agg #[.bool a3, .slice A1 n1 c1, .slice A2 n2 c2]) ∧ Below w.heap.size w w' := by
  have hu := Try.underlying49
  have hu2 := Try.underlying32
  go_enter Try.func17, Try.ntmps17
  go_wp2_with (
    first
    | ((with_reducible refine gate_dst (N := 1) rfl ?_); refine box_event ?hg (N := 1) ?hd (cs := #[.int .i64 a0, .int .i64 a1, .int .i64 a2, .bool a3, .slice A1 n1 c1, .slice A2 n2 c2]) (t := 32) ?hr ?_; (case hd => rfl); (case hg => rfl); (case hr => first | (go_simp; done) | (go_simp; rfl)); intro b1 hg wa hbox hb; have HB := Aside0.mk hb; have B1 := Aside0.mk hbox; have x0 : wa.cell? ⟨b1, 0, none⟩ = some (.int .i64 a0) := (blk_cell B1.out 0).trans rfl; have xf0 := blk_frozen B1.out 0; have x1 : wa.cell? ⟨b1, 1, none⟩ = some (.int .i64 a1) := (blk_cell B1.out 1).trans rfl; have xf1 := blk_frozen B1.out 1; have x2 : wa.cell? ⟨b1, 2, none⟩ = some (.int .i64 a2) := (blk_cell B1.out 2).trans rfl; have xf2 := blk_frozen B1.out 2; have x3 : wa.cell? ⟨b1, 3, none⟩ = some (.bool a3) := (blk_cell B1.out 3).trans rfl; have xf3 := blk_frozen B1.out 3; have x4 : wa.cell? ⟨b1, 4, none⟩ = some (.slice A1 n1 c1) := (blk_cell B1.out 4).trans rfl; have xf4 := blk_frozen B1.out 4; have x5 : wa.cell? ⟨b1, 5, none⟩ = some (.slice A2 n2 c2) := (blk_cell B1.out 5).trans rfl; have xf5 := blk_frozen B1.out 5; clear hbox hb hg)
    | ((with_reducible refine gate_dst (N := 2) rfl ?_); refine box_event ?hg (N := 2) ?hd (cs := #[.bool false, .slice none 0 0, .slice none 0 0]) (t := 49) ?hr ?_; (case hd => rfl); (case hg => rfl); (case hr => first | (go_simp; done) | (go_simp; rfl)); intro b2 hg wb hbox hb; have HB2 := Aside0.mk (below_step HB.out hb); have G2 := Aside0.mk (show w.heap.size ≤ b2 by rw [hg]; exact HB.out.size); have B2 := Aside0.mk hbox; have B1b := Aside0.mk (blk_below B1.out hb); clear x0 x1 x2 x3 x4 x5 xf0 xf1 xf2 xf3 xf4 xf5; have x0 : wb.cell? ⟨b1, 0, none⟩ = some (.int .i64 a0) := (blk_cell B1b.out 0).trans rfl; have xf0 := blk_frozen B1b.out 0; have x1 : wb.cell? ⟨b1, 1, none⟩ = some (.int .i64 a1) := (blk_cell B1b.out 1).trans rfl; have xf1 := blk_frozen B1b.out 1; have x2 : wb.cell? ⟨b1, 2, none⟩ = some (.int .i64 a2) := (blk_cell B1b.out 2).trans rfl; have xf2 := blk_frozen B1b.out 2; have x3 : wb.cell? ⟨b1, 3, none⟩ = some (.bool a3) := (blk_cell B1b.out 3).trans rfl; have xf3 := blk_frozen B1b.out 3; have x4 : wb.cell? ⟨b1, 4, none⟩ = some (.slice A1 n1 c1) := (blk_cell B1b.out 4).trans rfl; have xf4 := blk_frozen B1b.out 4; have x5 : wb.cell? ⟨b1, 5, none⟩ = some (.slice A2 n2 c2) := (blk_cell B1b.out 5).trans rfl; have xf5 := blk_frozen B1b.out 5; have y0 : wb.cell? ⟨b2, 0, none⟩ = some (.bool false) := (blk_cell B2.out 0).trans rfl; have yf0 := blk_frozen B2.out 0; have y1 : wb.cell? ⟨b2, 1, none⟩ = some (.slice none 0 0) := (blk_cell B2.out 1).trans rfl; have yf1 := blk_frozen B2.out 1; have y2 : wb.cell? ⟨b2, 2, none⟩ = some (.slice none 0 0) := (blk_cell B2.out 2).trans rfl; have yf2 := blk_frozen B2.out 2; clear hbox hb hg))
  refine bodyPost_ret (results_cell_row rfl _ _ b2 49 #[.bool a3, .slice A1 n1 c1, .slice A2 n2 c2] (0, 0) _ rfl (blk_put (cs' := #[.bool a3, .slice A1 n1 c1, .slice A2 n2 c2]) (blk_put (cs' := #[.bool a3, .slice A1 n1 c1, .slice none 0 0]) (blk_put (cs' := #[.bool a3, .slice none 0 0, .slice none 0 0]) B2.out 0 (.bool a3) rfl) 1 (.slice A1 n1 c1) rfl) 2 (.slice A2 n2 c2) rfl) Try.underlying49 rfl (by kernel_rfl)) rfl ?_
  exact ⟨rfl, (below_set (below_set (below_set HB2.out G2.out (j := 0) (v := .bool a3)) G2.out (j := 1) (v := .slice A1 n1 c1)) G2.out (j := 2) (v := .slice A2 n2 c2))⟩
/-! ### advertisements that can be read -/
structure RdL (W : World) (ad : List AD) (pf : List PF) (A1 : Option Addr) (c1 : Nat) (A2 : Option Addr) (c2 : Nat) : Prop where
  l1 : ad.length ≤ c1
  r1 : Kd.C k72 W A1 ad.length ad
  l2 : pf.length ≤ c2
  r2 : Kd.C k76 W A2 pf.length pf
section
variable {W W2 : World} {ad ad' : List AD} {pf pf' : List PF} {A1 A2 B1 B2 : Option Addr} {c1 c2 d1 d2 : Nat}
theorem RdL.below (h : RdL W ad pf A1 c1 A2 c2) (hb : Below W.heap.size W W2) : RdL W2 ad pf A1 c1 A2 c2 := ⟨h.l1, Kd.C_below h.r1 hb, h.l2, Kd.C_below h.r2 hb⟩
theorem RdL.A (h : RdL W ad pf A1 c1 A2 c2) : RdA W (.slice A1 ad.length c1) ad := ⟨A1, c1, rfl, h.l1, h.r1⟩
theorem RdL.P (h : RdL W ad pf A1 c1 A2 c2) : RdP W (.slice A2 pf.length c2) pf := ⟨A2, c2, rfl, h.l2, h.r2⟩
theorem few_c (o s age : Int) (ov : Bool) (h : RdL W ad pf A1 c1 A2 c2) : Calls Try.prog 22 #[.agg #[.int .i64 o, .int .i64 s, .int .i64 age, .bool ov, .slice A1 ad.length c1, .slice A2 pf.length c2]] W fun e w' => e = .returned (.bool (decide (ad.length ≤ 300 ∧ pf.length ≤ 100))) ∧ Below W.heap.size W w' :=
  waypointref32_Few.calls o s age ov A1 c1 ad A2 c2 pf _ W h.r1 h.l1 h.r2 h.l2 (few_eq o s age ov ad pf)
theorem rvalid_c (o s age : Int) (ov : Bool) (hG : G32 pf) (h : RdL W ad pf A1 c1 A2 c2) : Calls Try.prog 23 #[.agg #[.int .i64 o, .int .i64 s, .int .i64 age, .bool ov, .slice A1 ad.length c1, .slice A2 pf.length c2]] W fun e w' => e = .returned (.bool (decide (VL o s age ov ad pf))) ∧ Below W.heap.size W w' :=
  waypointref32_Valid.calls 2000 o s age ov A1 c1 ad A2 c2 pf _ W h.r1 h.l1 h.r2 h.l2 (rvalid_eq 2000 o s age ov ad pf hG (by omega))
theorem valid_c (o s age : Int) (ov : Bool) (hG : G32 pf) (h : RdL W ad pf A1 c1 A2 c2) : Calls Try.prog 20 #[.agg #[.int .i64 o, .int .i64 s, .int .i64 age, .bool ov, .slice A1 ad.length c1, .slice A2 pf.length c2]] W fun e w' => e = .returned (.bool (decide (VL o s age ov ad pf))) ∧ Below W.heap.size W w' :=
  lsa_Valid.calls 2000 o s age ov A1 c1 ad A2 c2 pf _ W h.r1 h.l1 h.r2 h.l2 (valid_eq 2000 o s age ov ad pf hG (by omega))
theorem contents_c (o s age o' s' age' : Int) (ov ov' : Bool) (h1 : ad.length ≤ 1000) (h2 : pf.length ≤ 1000) (h : RdL W ad pf A1 c1 A2 c2) (k : RdL W ad' pf' B1 d1 B2 d2) : Calls Try.prog 25 #[.agg #[.int .i64 o, .int .i64 s, .int .i64 age, .bool ov, .slice A1 ad.length c1, .slice A2 pf.length c2], .agg #[.int .i64 o', .int .i64 s', .int .i64 age', .bool ov', .slice B1 ad'.length d1, .slice B2 pf'.length d2]] W fun e w' => e = .returned (.bool (decide (ov = ov' ∧ ad = ad' ∧ pf = pf'))) ∧ Below W.heap.size W w' :=
  waypointref32_Contents.calls 4000 o s age ov A1 c1 ad A2 c2 pf o' s' age' ov' B1 d1 ad' B2 d2 pf' _ W h.r1 h.l1 h.r2 h.l2 k.r1 k.l1 k.r2 k.l2 (contents_eq 4000 o s age ov ad pf o' s' age' ov' ad' pf' h1 h2 (by omega))
theorem equal_c (o s age o' s' age' : Int) (ov ov' : Bool) (h1 : ad.length ≤ 1000) (h2 : pf.length ≤ 1000) (h : RdL W ad pf A1 c1 A2 c2) (k : RdL W ad' pf' B1 d1 B2 d2) : Calls Try.prog 13 #[.agg #[.int .i64 o, .int .i64 s, .int .i64 age, .bool ov, .slice A1 ad.length c1, .slice A2 pf.length c2], .agg #[.int .i64 o', .int .i64 s', .int .i64 age', .bool ov', .slice B1 ad'.length d1, .slice B2 pf'.length d2]] W fun e w' => e = .returned (.bool (decide ((⟨o, s, age, ov, ad, pf⟩ : L) = ⟨o', s', age', ov', ad', pf'⟩))) ∧ Below W.heap.size W w' :=
  waypointref32_Equal.calls 4000 o s age ov A1 c1 ad A2 c2 pf o' s' age' ov' B1 d1 ad' B2 d2 pf' _ W h.r1 h.l1 h.r2 h.l2 k.r1 k.l1 k.r2 k.l2 (requal_eq 4000 o s age ov ad pf o' s' age' ov' ad' pf' h1 h2 (by omega))
theorem newer_c (o s age o' s' age' : Int) (ov ov' : Bool) (hG : G32 pf) (hG2 : G32 pf') (h : RdL W ad pf A1 c1 A2 c2) (k : RdL W ad' pf' B1 d1 B2 d2) : Calls Try.prog 21 #[.agg #[.int .i64 o, .int .i64 s, .int .i64 age, .bool ov, .slice A1 ad.length c1, .slice A2 pf.length c2], .agg #[.int .i64 o', .int .i64 s', .int .i64 age', .bool ov', .slice B1 ad'.length d1, .slice B2 pf'.length d2]] W fun e w' => e = .returned (.int .i64 (newer ⟨o, s, age, ov, ad, pf⟩ ⟨o', s', age', ov', ad', pf'⟩)) ∧ Below W.heap.size W w' := by
  obtain ⟨n, hn⟩ : ∃ n : Nat, n = 100000001 := ⟨_, rfl⟩
  exact lsa_Newer.calls n o s age ov A1 c1 ad A2 c2 pf o' s' age' ov' B1 d1 ad' B2 d2 pf' _ W h.r1 h.l1 h.r2 h.l2 k.r1 k.l1 k.r2 k.l2 (newer_eq n ⟨o, s, age, ov, ad, pf⟩ ⟨o', s', age', ov', ad', pf'⟩ hG hG2 (by omega))
end
/-! ### the example of the document -/
theorem w64r {n : Int} (h0 : -9223372036854775808 ≤ n) (h : n ≤ 9223372036854775807) : wrap64 n = n := by unfold wrap64; omega
theorem set_made (s : OS) (ov : Bool) (la : List AD) (lp : List PF) (q : Bool) (h : s.cur = true → q = false) (h0 : 0 ≤ s.floor) (h1 : s.floor < 1073741824) : s.set ov la lp true q = (⟨ov, la, lp, s.node, s.floor + 1, 0, true⟩, true, 0) := by
  unfold OS.set OS.made
  rw [if_neg (by simp), if_neg (fun c => by have := h c.1; rw [c.2] at this; cases this), if_neg (by omega), w64r (by omega) (by omega)]
theorem hear_made (s : OS) (a1 n : Int) (h : s.cur = true) (hn : 0 < n) (h0 : 0 ≤ a1) (h1 : a1 < 1073741824) : s.hear s.node a1 true n = (⟨s.ov, s.adj, s.pre, s.node, a1 + 1, 0, true⟩, true, 0) := by
  unfold OS.hear OS.made
  rw [if_neg (by simp), if_neg (by simp), if_neg (by simp [h]), if_neg (by omega), if_neg (by omega), w64r (by omega) (by omega)]
def aS0 : OS := ⟨false, [], [], 2, 0, 0, false⟩
def aS1 : OS := ⟨false, [], [], 2, 1, 0, true⟩
def aS2 : OS := ⟨false, [], [], 2, 10, 0, true⟩
def aS3 : OS := ⟨false, [], [], 2, 11, 0, true⟩
theorem valid_plain (n q a : Int) (h0 : 0 ≤ n) (h1 : n ≤ 63) (q0 : 1 ≤ q) (q1 : q ≤ 1073741824) (a0 : 0 ≤ a) (a1 : a < 3600) (ov : Bool) : Valid ⟨n, q, a, ov, [], []⟩ :=
  ⟨⟨h0, h1⟩, ⟨q0, q1⟩, ⟨a0, by show a ≤ 3600; omega⟩, by simp, by simp, trivial, trivial, fun h => by simp only at h; omega⟩
theorem aw1 : aS0.setP false [] [] = (aS1, true, 0) := by
  have hv : VL aS0.node 1 0 false [] [] := valid_plain 2 1 0 (by decide) (by decide) (by decide) (by decide) (by decide) (by decide) false
  unfold OS.setP
  rw [decide_eq_true hv, set_made _ _ _ _ _ (fun h => by cases h) (by decide) (by decide)]
  rfl
theorem aw2 : aS1.setP false [] [] = (aS1, false, 0) := by
  have hv : VL aS1.node 1 0 false [] [] := valid_plain 2 1 0 (by decide) (by decide) (by decide) (by decide) (by decide) (by decide) false
  have hs : Sm ⟨aS1.node, 1, 0, false, [], []⟩ ⟨aS1.node, 1, 0, aS1.ov, aS1.adj, aS1.pre⟩ := ⟨rfl, rfl, Iff.rfl, rfl, rfl, rfl⟩
  unfold OS.setP
  rw [decide_eq_true hv, decide_eq_true hs]
  rfl
theorem aw3 : aS1.hearP ⟨2, 9, 0, false, [], []⟩ = (aS2, true, 0) := by
  have hv : Valid ⟨2, 9, 0, false, [], []⟩ := valid_plain 2 9 0 (by decide) (by decide) (by decide) (by decide) (by decide) (by decide) false
  have hw : Valid ⟨2, 1, 0, false, [], []⟩ := valid_plain 2 1 0 (by decide) (by decide) (by decide) (by decide) (by decide) (by decide) false
  have hn : newer ⟨2, 9, 0, false, [], []⟩ ⟨2, 1, 0, false, [], []⟩ = 1 := by
    rw [newer_v hv hw]
    rfl
  show aS1.hear 2 9 (decide (Valid ⟨2, 9, 0, false, [], []⟩)) (newer ⟨2, 9, 0, false, [], []⟩ ⟨2, 1, 0, false, [], []⟩) = _
  rw [decide_eq_true hv, hn]
  exact hear_made aS1 9 1 rfl (by decide) (by decide) (by decide)
theorem aw4 : aS2.hearP ⟨2, 9, 0, false, [], []⟩ = (aS2, false, 0) := by
  have hv : Valid ⟨2, 9, 0, false, [], []⟩ := valid_plain 2 9 0 (by decide) (by decide) (by decide) (by decide) (by decide) (by decide) false
  have hw : Valid ⟨2, 10, 0, false, [], []⟩ := valid_plain 2 10 0 (by decide) (by decide) (by decide) (by decide) (by decide) (by decide) false
  have hn : newer ⟨2, 9, 0, false, [], []⟩ ⟨2, 10, 0, false, [], []⟩ = -1 := by
    rw [newer_v hv hw]
    rfl
  show aS2.hear 2 9 (decide (Valid ⟨2, 9, 0, false, [], []⟩)) (newer ⟨2, 9, 0, false, [], []⟩ ⟨2, 10, 0, false, [], []⟩) = _
  rw [decide_eq_true hv, hn]
  rfl
theorem aw5 : aS2.tick 1800 = (aS3, true) := by kernel_rfl
theorem C_empty {α : Type} (d : Kd α) (w : World) (A : Option Addr) : d.C w A ([] : List α).length [] := ⟨rfl, by simp, fun h => absurd h (Nat.lt_irrefl 0)⟩
/-- Where nobody else turns anything. -/
instance zz0 : ZZ := ⟨fun _ => False⟩
theorem nilA (w : World) : RdA w (.slice none 0 0) [] := ⟨none, 0, rfl, Nat.le_refl _, Kd.C_nil _ _⟩
theorem nilP (w : World) : RdP w (.slice none 0 0) [] := ⟨none, 0, rfl, Nat.le_refl _, Kd.C_nil _ _⟩
set_option maxHeartbeats 8000000 in
set_option maxRecDepth 100000 in
theorem awake36 (w : World) : Calls Try.prog 8 #[] w fun e w' => e = .returned (.bool true) ∧ Below w.heap.size w w' := by
  have hu := Try.underlying32
  have hu2 := Try.underlying49
  go_enter Try.func8, Try.ntmps8
  go_wp2_with (
    first
    | ((with_reducible refine gate_callee (f := 10) rfl ?_); refine goesL_ (some 15) rfl rfl Try.func10 (by kernel_rfl) rfl #[.int .i64 2] rfl (by (try simp only [List.map_toArray, List.map_cons, List.map_nil]); first | done | rfl | (simp only [List.length_drop, List.length_take]; rfl)) ?_; refine (new_calls 2 _ (by decide) (by decide) (fun _ h => False.elim h)).mono ?_; rintro e w1 ⟨g, rfl, hg, hO, hb⟩; refine ⟨_, rfl, ?_⟩; have G := Aside0.mk hg; have O1 := Aside0.mk (show Orig w1 g aS0 from hO); have H1 := Aside0.mk hb; clear hg hO hb)
    | ((with_reducible refine gate_callee (f := 16) rfl ?_); refine goesL_ (some 21) rfl rfl Try.func16 (by kernel_rfl) rfl #[.pointer (some ⟨g, 0, none⟩), .agg #[.bool false, .slice none 0 0, .slice none 0 0]] rfl (by (try simp only [List.map_toArray, List.map_cons, List.map_nil]); first | done | rfl | (simp only [List.length_drop, List.length_take]; rfl)) ?_; refine (setP_calls g aS0 false _ _ [] [] _ O1.out (nilA _) (nilP _) (by simp) (by simp) (by simp [aS0]) (by simp [aS0]) g32_nil).mono ?_; rintro e w2 ⟨rfl, hO, hM⟩; refine ⟨_, rfl, ?_⟩; simp only [aw1] at hO ⊢; have O2 := Aside0.mk hO; have H2 := Aside0.mk (H1.out.trans (hM.b.mono G.out)); clear hO hM)
    | ((with_reducible refine gate_callee (f := 16) rfl ?_); refine goesL_ (some 27) rfl rfl Try.func16 (by kernel_rfl) rfl #[.pointer (some ⟨g, 0, none⟩), .agg #[.bool false, .slice none 0 0, .slice none 0 0]] rfl (by (try simp only [List.map_toArray, List.map_cons, List.map_nil]); first | done | rfl | (simp only [List.length_drop, List.length_take]; rfl)) ?_; refine (setP_calls g aS1 false _ _ [] [] _ O2.out (nilA _) (nilP _) (by simp) (by simp) (by simp [aS1]) (by simp [aS1]) g32_nil).mono ?_; rintro e w3 ⟨rfl, hO, hM⟩; refine ⟨_, rfl, ?_⟩; simp only [aw2] at hO ⊢; have O3 := Aside0.mk hO; have H3 := Aside0.mk (H2.out.trans (hM.b.mono G.out)); clear hO hM)
    | ((with_reducible refine gate_callee (f := 18) rfl ?_); refine goesL_ (some 33) rfl rfl Try.func18 (by kernel_rfl) rfl #[.pointer (some ⟨g, 0, none⟩), .agg #[.int .i64 2, .int .i64 9, .int .i64 0, .bool false, .slice none 0 0, .slice none 0 0]] rfl (by (try simp only [List.map_toArray, List.map_cons, List.map_nil]); first | done | rfl | (simp only [List.length_drop, List.length_take]; rfl)) ?_; refine (hearP_calls g aS1 ⟨2, 9, 0, false, [], []⟩ _ _ _ O3.out (nilA _) (nilP _) (by simp [aS1]) (by simp [aS1]) g32_nil g32_nil).mono ?_; rintro e w4 ⟨rfl, hO, hM⟩; refine ⟨_, rfl, ?_⟩; simp only [aw3] at hO ⊢; have O4 := Aside0.mk hO; have H4 := Aside0.mk (H3.out.trans (hM.b.mono G.out)); clear hO hM)
    | ((with_reducible refine gate_callee (f := 18) rfl ?_); refine goesL_ (some 39) rfl rfl Try.func18 (by kernel_rfl) rfl #[.pointer (some ⟨g, 0, none⟩), .agg #[.int .i64 2, .int .i64 9, .int .i64 0, .bool false, .slice none 0 0, .slice none 0 0]] rfl (by (try simp only [List.map_toArray, List.map_cons, List.map_nil]); first | done | rfl | (simp only [List.length_drop, List.length_take]; rfl)) ?_; refine (hearP_calls g aS2 ⟨2, 9, 0, false, [], []⟩ _ _ _ O4.out (nilA _) (nilP _) (by simp [aS2]) (by simp [aS2]) g32_nil g32_nil).mono ?_; rintro e w5 ⟨rfl, hO, hM⟩; refine ⟨_, rfl, ?_⟩; simp only [aw4] at hO ⊢; have O5 := Aside0.mk hO; have H5 := Aside0.mk (H4.out.trans (hM.b.mono G.out)); clear hO hM)
    | ((with_reducible refine gate_callee (f := 19) rfl ?_); refine goesL_ (some 43) rfl rfl Try.func19 (by kernel_rfl) rfl #[.pointer (some ⟨g, 0, none⟩), .int .i64 1800] rfl (by (try simp only [List.map_toArray, List.map_cons, List.map_nil]); first | done | rfl | (simp only [List.length_drop, List.length_take]; rfl)) ?_; refine (tick_calls g aS2 1800 _ O5.out).mono ?_; rintro e w6 ⟨rfl, hO, hM⟩; refine ⟨_, rfl, ?_⟩; simp only [aw5] at hO ⊢; have O6 := Aside0.mk hO; have H6 := Aside0.mk (H5.out.trans (hM.b.mono G.out)); clear hO hM)
    | ((with_reducible refine gate_callee (f := 12) rfl ?_); refine goesL_ (some 46) rfl rfl Try.func12 (by kernel_rfl) rfl #[.pointer (some ⟨g, 0, none⟩)] rfl (by (try simp only [List.map_toArray, List.map_cons, List.map_nil]); first | done | rfl | (simp only [List.length_drop, List.length_take]; rfl)) ?_; refine (current_calls g aS3 _ O6.out (by simp [aS3]) (by simp [aS3]) rfl).mono ?_; rintro e w7 ⟨v1, v2, rfl, hA, hP, hb⟩; refine ⟨_, rfl, ?_⟩; obtain ⟨A1, c1, rfl, h11, h12⟩ := hA; obtain ⟨A2, c2, rfl, h21, h22⟩ := hP; have C12 := Aside0.mk h12; have C22 := Aside0.mk h22; have C11 := Aside0.mk h11; have C21 := Aside0.mk h21; have O7 := Aside0.mk (O6.out.below hb); have H7 := Aside0.mk (below_step H6.out hb); clear hb h11 h12 h21 h22; dsimp only [aS3, List.length_nil, LSAv])
    | ((with_reducible refine gate_dst (N := 12) rfl ?_); refine box_event ?hg (N := 12) ?hd (cs := #[.int .i64 0, .int .i64 0, .int .i64 0, .bool false, .slice none 0 0, .slice none 0 0]) (t := 32) ?hr ?_; (case hd => rfl); (case hg => rfl); (case hr => first | (go_simp; done) | (go_simp; rfl)); intro b12 hg w8 hbox hb; have B12 := Aside0.mk hbox; have G12 := Aside0.mk (show w.heap.size ≤ b12 by rw [hg]; exact H7.out.size); have HB7 := Aside0.mk hb; have G7 := Aside0.mk (Nat.le_of_eq hg.symm); have H8 := Aside0.mk (below_step H7.out hb); have x0 : w8.cell? ⟨b12, 0, none⟩ = some (.int .i64 0) := (blk_cell B12.out 0).trans rfl; have xf0 := blk_frozen B12.out 0; have x1 : w8.cell? ⟨b12, 1, none⟩ = some (.int .i64 0) := (blk_cell B12.out 1).trans rfl; have xf1 := blk_frozen B12.out 1; have x2 : w8.cell? ⟨b12, 2, none⟩ = some (.int .i64 0) := (blk_cell B12.out 2).trans rfl; have xf2 := blk_frozen B12.out 2; have x3 : w8.cell? ⟨b12, 3, none⟩ = some (.bool false) := (blk_cell B12.out 3).trans rfl; have xf3 := blk_frozen B12.out 3; have x4 : w8.cell? ⟨b12, 4, none⟩ = some (.slice none 0 0) := (blk_cell B12.out 4).trans rfl; have xf4 := blk_frozen B12.out 4; have x5 : w8.cell? ⟨b12, 5, none⟩ = some (.slice none 0 0) := (blk_cell B12.out 5).trans rfl; have xf5 := blk_frozen B12.out 5; clear hbox hb hg)
    )
  refine (equal_c (ad := []) (pf := []) (ad' := []) (pf' := []) (c1 := c1) (c2 := c2) 2 11 0 2 11 0 false false (by simp) (by simp) ⟨Nat.zero_le _, C_empty _ _ _, Nat.zero_le _, C_empty _ _ _⟩ ⟨Nat.le_refl _, Kd.C_nil _ _, Nat.le_refl _, Kd.C_nil _ _⟩).mono ?_
  rintro e w9 ⟨rfl, hb⟩
  have H9 := Aside0.mk (below_step (below_set (below_set (below_set (below_set (below_set (below_set H8.out G12.out (j := 0) (v := .int .i64 2)) G12.out (j := 1) (v := .int .i64 11)) G12.out (j := 2) (v := .int .i64 0)) G12.out (j := 3) (v := .bool false)) G12.out (j := 4) (v := .slice A1 0 c1)) G12.out (j := 5) (v := .slice A2 0 c2)) hb)
  have O9 := Aside0.mk (O7.out.below (below_step (below_set (below_set (below_set (below_set (below_set (below_set HB7.out G7.out (j := 0) (v := .int .i64 2)) G7.out (j := 1) (v := .int .i64 11)) G7.out (j := 2) (v := .int .i64 0)) G7.out (j := 3) (v := .bool false)) G7.out (j := 4) (v := .slice A1 0 c1)) G7.out (j := 5) (v := .slice A2 0 c2)) hb))
  rw [decide_eq_true (show (⟨2, 11, 0, false, [], []⟩ : L) = ⟨2, 11, 0, false, [], []⟩ from rfl)]
  clear hb x0 x1 x2 x3 x4 x5 xf0 xf1 xf2 xf3 xf4 xf5
  dsimp only
  go_wp2_with fail
  refine (floor_calls g aS3 _ O9.out).mono ?_
  rintro e w10 ⟨rfl, hb⟩
  have H10 := Aside0.mk (below_step H9.out hb)
  clear hb
  dsimp only [aS3]
  go_wp2_with fail
  go_ret
  exact ⟨rfl, H10.out⟩
end Go.Proofs.Ytdkfhlfojleejaa.HLsc
