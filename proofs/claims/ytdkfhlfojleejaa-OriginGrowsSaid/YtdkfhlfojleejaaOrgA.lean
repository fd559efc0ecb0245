/-
  origin: what the methods do, by hand (with, make, Current, Floor, New).
-/
import Derived.Test.YtdkfhlfojleejaaHLscx
namespace Go.Proofs.Ytdkfhlfojleejaa.HLsc
open Go.RowKit Go.Proofs.YtdkfhlfojleejaaW.PrintWords Go.Proofs.YtdkfhlfojleejaaW.PrintLast Go.Proofs.YtdkfhlfojleejaaW.PrintMore
attribute [local go_sem] gtr_str leq_str max2_int min2_int max_two min_two max_three min_three max_four min_four
set_option linter.unusedVariables false
set_option linter.unusedSimpArgs false
set_option linter.unusedSectionVars false
/-- Blocks that others may turn: the rows of an originator do not lie there. -/
class ZZ where
  z : Nat → Prop
variable [ZZ]
theorem Kept.of_but {w w' : World} {g : Nat} {S : Nat → Prop} (h : KeepBut w w' g none) (hs : ∀ k, k = g → S k) : Kept w w' S := ⟨h.1, fun i hi hn => h.2 i hi (fun e => hn (hs i e)) (by simp)⟩
/-- A row of adjacencies, of prefixes, read in a world. -/
def RdA (w : World) (v : Value) (l : List S72) : Prop := ∃ A c, v = .slice A l.length c ∧ l.length ≤ c ∧ Kd.C k72 w A l.length l
def RdP (w : World) (v : Value) (l : List S76) : Prop := ∃ A c, v = .slice A l.length c ∧ l.length ≤ c ∧ Kd.C k76 w A l.length l
/-- It stays read whatever becomes of block g. -/
def FtA (w : World) (g : Nat) (v : Value) (l : List S72) : Prop := (∀ k, ZZ.z k → k < w.heap.size) ∧ ∃ A c, v = .slice A l.length c ∧ l.length ≤ c ∧ ∀ W', Kept w W' (fun k => k = g ∨ ZZ.z k) → Kd.C k72 W' A l.length l
def FtP (w : World) (g : Nat) (v : Value) (l : List S76) : Prop := (∀ k, ZZ.z k → k < w.heap.size) ∧ ∃ A c, v = .slice A l.length c ∧ l.length ≤ c ∧ ∀ W', Kept w W' (fun k => k = g ∨ ZZ.z k) → Kd.C k76 W' A l.length l
section
variable {w w' : World} {g : Nat} {v : Value} {la : List S72} {lp : List S76}
theorem RdA.below (h : RdA w v la) (hb : Below w.heap.size w w') : RdA w' v la := by obtain ⟨A, c, e, l, h⟩ := h; exact ⟨A, c, e, l, Kd.C_below h hb⟩
theorem RdP.below (h : RdP w v lp) (hb : Below w.heap.size w w') : RdP w' v lp := by obtain ⟨A, c, e, l, h⟩ := h; exact ⟨A, c, e, l, Kd.C_below h hb⟩
theorem FtA.rd (h : FtA w g v la) : RdA w v la := by obtain ⟨_, A, c, e, l, h⟩ := h; exact ⟨A, c, e, l, h w (Kept.refl w _)⟩
theorem FtP.rd (h : FtP w g v lp) : RdP w v lp := by obtain ⟨_, A, c, e, l, h⟩ := h; exact ⟨A, c, e, l, h w (Kept.refl w _)⟩
theorem FtA.keep (h : FtA w g v la) (hk : KeepBut w w' g none) : FtA w' g v la := by obtain ⟨z, A, c, e, l, h⟩ := h; exact ⟨fun k hz => Nat.lt_of_lt_of_le (z k hz) hk.1, A, c, e, l, Kd.C_kept_call h (Kept.of_but hk (fun _ h => .inl h)) (fun k h => .inl h)⟩
theorem FtP.keep (h : FtP w g v lp) (hk : KeepBut w w' g none) : FtP w' g v lp := by obtain ⟨z, A, c, e, l, h⟩ := h; exact ⟨fun k hz => Nat.lt_of_lt_of_le (z k hz) hk.1, A, c, e, l, Kd.C_kept_call h (Kept.of_but hk (fun _ h => .inl h)) (fun k h => .inl h)⟩
theorem FtA.below (h : FtA w g v la) (hb : Below w.heap.size w w') : FtA w' g v la := h.keep (KeepBut.of_below hb g none)
theorem FtP.below (h : FtP w g v lp) (hb : Below w.heap.size w w') : FtP w' g v lp := h.keep (KeepBut.of_below hb g none)
end
theorem RdA.C {w : World} {A : Option Addr} {n c : Nat} {l : List S72} (h : RdA w (.slice A n c) l) : l.length ≤ c ∧ Kd.C k72 w A l.length l := by
  obtain ⟨A', c', e, hl, h⟩ := h
  injection e with e1 e2 e3
  subst e1 e3
  exact ⟨hl, h⟩
theorem RdP.C {w : World} {A : Option Addr} {n c : Nat} {l : List S76} (h : RdP w (.slice A n c) l) : l.length ≤ c ∧ Kd.C k76 w A l.length l := by
  obtain ⟨A', c', e, hl, h⟩ := h
  injection e with e1 e2 e3
  subst e1 e3
  exact ⟨hl, h⟩
/-- It stays read whatever becomes of the blocks of S. -/
def FkA (w : World) (S : Nat → Prop) (v : Value) (l : List S72) : Prop := ∃ A c, v = .slice A l.length c ∧ l.length ≤ c ∧ ∀ W', Kept w W' S → Kd.C k72 W' A l.length l
def FkP (w : World) (S : Nat → Prop) (v : Value) (l : List S76) : Prop := ∃ A c, v = .slice A l.length c ∧ l.length ≤ c ∧ ∀ W', Kept w W' S → Kd.C k76 W' A l.length l
section
variable {w w' : World} {g : Nat} {v : Value} {la : List S72} {lp : List S76} {S S2 : Nat → Prop}
theorem FkA.rd (h : FkA w S v la) : RdA w v la := by obtain ⟨A, c, e, l, h⟩ := h; exact ⟨A, c, e, l, h w (Kept.refl w S)⟩
theorem FkP.rd (h : FkP w S v lp) : RdP w v lp := by obtain ⟨A, c, e, l, h⟩ := h; exact ⟨A, c, e, l, h w (Kept.refl w S)⟩
theorem FkA.step (h : FkA w S v la) (hk : Kept w w' S) (hs : ∀ k, S2 k → S k ∨ w.heap.size ≤ k) : FkA w' S2 v la := by obtain ⟨A, c, e, l, h⟩ := h; exact ⟨A, c, e, l, Kd.C_kept_call h hk hs⟩
theorem FkP.step (h : FkP w S v lp) (hk : Kept w w' S) (hs : ∀ k, S2 k → S k ∨ w.heap.size ≤ k) : FkP w' S2 v lp := by obtain ⟨A, c, e, l, h⟩ := h; exact ⟨A, c, e, l, Kd.C_kept_call h hk hs⟩
theorem FkA.ft (h : FkA w S v la) (hg : S g) (hz : ∀ k, ZZ.z k → k < w.heap.size) (hs : ∀ k, ZZ.z k → S k) : FtA w g v la := by obtain ⟨A, c, e, l, h⟩ := h; exact ⟨hz, A, c, e, l, Kd.C_kept_call h (Kept.refl w S) (fun k hk => hk.elim (fun e => .inl (e ▸ hg)) (fun h => .inl (hs k h)))⟩
theorem FkP.ft (h : FkP w S v lp) (hg : S g) (hz : ∀ k, ZZ.z k → k < w.heap.size) (hs : ∀ k, ZZ.z k → S k) : FtP w g v lp := by obtain ⟨A, c, e, l, h⟩ := h; exact ⟨hz, A, c, e, l, Kd.C_kept_call h (Kept.refl w S) (fun k hk => hk.elim (fun e => .inl (e ▸ hg)) (fun h => .inl (hs k h)))⟩
theorem FkA.of_R {base : Nat} {ok : Nat → Prop} (h : Kd.R k72 72 w base ok v la) (hs : ∀ k, S k → k < base) : FkA w S v la := by
  obtain ⟨A, c, rfl, hc, _⟩ := Kd.R_reads h
  exact ⟨A, c, rfl, hc, Kd.C_kept_own (Kd.R_bound h) (fun k hk hS => by have := hs k hS; have := hk.2.1; omega)⟩
theorem FkP.of_R {base : Nat} {ok : Nat → Prop} (h : Kd.R k76 76 w base ok v lp) (hs : ∀ k, S k → k < base) : FkP w S v lp := by
  obtain ⟨A, c, rfl, hc, _⟩ := Kd.R_reads h
  exact ⟨A, c, rfl, hc, Kd.C_kept_own (Kd.R_bound h) (fun k hk hS => by have := hs k hS; have := hk.2.1; omega)⟩
end
/-- An originator. -/
structure OS where
  ov : Bool
  adj : List S72
  pre : List S76
  node : Int
  floor : Int
  age : Int
  cur : Bool
/-- The originator's block. -/
def OB (W : World) (g : Nat) (s : OS) (v1 v2 : Value) : Prop := W.heap[g]? = some (.cells #[.bool s.ov, v1, v2, .int .i64 s.node, .int .i64 s.floor, .int .i64 s.age, .bool s.cur] 62 (0, 0))
def Orig (W : World) (g : Nat) (s : OS) : Prop := ∃ v1 v2, OB W g s v1 v2 ∧ FtA W g v1 s.adj ∧ FtP W g v2 s.pre
theorem Orig.zb {w : World} {g : Nat} {s : OS} (h : Orig w g s) : ∀ k, ZZ.z k → k < w.heap.size := by obtain ⟨_, _, _, a, _⟩ := h; exact a.1
theorem Orig.below {w w' : World} {g : Nat} {s : OS} (h : Orig w g s) (hb : Below w.heap.size w w') : Orig w' g s := by
  obtain ⟨v1, v2, h, a, p⟩ := h
  exact ⟨v1, v2, blk_below h hb, a.below hb, p.below hb⟩
/-- What a method of the originator at g may turn: block g, and what is new. -/
structure Mut (g : Nat) (w w' : World) : Prop where
  b : Below g w w'
  k : KeepBut w w' g none
theorem Mut.of_below {g : Nat} {w w' : World} (h : Below w.heap.size w w') (hg : g ≤ w.heap.size) : Mut g w w' := ⟨h.mono hg, KeepBut.of_below h g none⟩
theorem Mut.trans {g : Nat} {a b c : World} (h : Mut g a b) (k : Mut g b c) : Mut g a c := ⟨h.b.trans k.b, h.k.trans k.k (.inl rfl)⟩
abbrev ZL : Value := .agg #[.int .i64 0, .int .i64 0, .int .i64 0, .bool false, .slice none 0 0, .slice none 0 0]
def LSAv (n q a : Int) (ov : Bool) (v1 v2 : Value) : Value := .agg #[.int .i64 n, .int .i64 q, .int .i64 a, .bool ov, v1, v2]
def wi.T2 : Bool × List (List Nat × List Nat) := (true, [([], []), ([0], [0]), ([1], [1]), ([2], [2]), ([], []), ([], []), ([5], [5]), ([], []), ([7], [7]), ([], []), ([9], [9]), ([3, 4, 6, 8, 10], [3, 4, 6, 8, 10]), ([11, 0, 1, 2, 3, 4, 5, 6, 7, 8, 9, 10, 11], [11])])
def wi.B2 : List Nat := [0, 1, 3, 7, 0, 0, 32, 0, 128, 0, 512, 2047, 4095]
theorem wi.tab2 : rtab .any (opsOf Try.f29 2) = wi.T2 := by kernel_rfl
theorem wi.bits2 : waitsOk wi.T2.2 wi.B2 = true := by kernel_rfl
theorem clone_some (ov : Bool) (la : List S72) (lp : List S76) (ha : la.length < 1000000000) (hp : lp.length < 1000000000) : origin_clone.f ov la lp = some (ov, la, lp) := by
  unfold origin_clone.f api_Adjacency_50.f api_Prefix_51.f
  simp [show la.length < 5864062014805 by omega, show lp.length < 8796093022208 by omega]
set_option maxHeartbeats 8000000 in
set_option maxRecDepth 100000 in
theorem with_calls (g : Nat) (s : OS) (u1 u2 v1 v2 : Value) (ov : Bool) (la : List S72) (lp : List S76) (q : Int) (w : World) (hO : OB w g s u1 u2) (h1 : RdA w v1 la) (h2 : RdP w v2 lp) (ha : la.length < 1000000000) (hp : lp.length < 1000000000) :
    Calls Try.prog 29 #[.pointer (some ⟨g, 0, none⟩), .agg #[.bool ov, v1, v2], .int .i64 q] w fun e w' => ∃ r1 r2, e = .returned (LSAv s.node q 0 ov r1 r2) ∧ FkA w' (· < w.heap.size) r1 la ∧ FkP w' (· < w.heap.size) r2 lp ∧ Below w.heap.size w w' := by
  have hu := Try.underlying49
  obtain ⟨A1, c1, rfl, hc1, hC1⟩ := h1
  obtain ⟨A2, c2, rfl, hc2, hC2⟩ := h2
  have HO := Aside0.mk hO
  have H1 := Aside0.mk hC1
  have H2 := Aside0.mk hC2
  have HB := Aside0.mk (Below.refl w.heap.size w)
  clear hO hC1 hC2
  go_enter Try.func29, Try.ntmps29
  have HC := Aside0.mk (clone_some ov la lp ha hp)
  try go_wp2_with (
    first
    | ((with_reducible refine gate_dst (N := 4) rfl ?_); refine box_event ?hg (N := 4) ?hd (cs := #[.bool ov, .slice A1 la.length c1, .slice A2 lp.length c2]) (t := 49) ?hr ?_; (case hd => rfl); (case hg => rfl); (case hr => first | (go_simp; done) | (go_simp; rfl)); intro b1 hg wa hbox hb; have O1 := Aside0.mk (blk_below HO.out hb); have B1 := Aside0.mk hbox; have G1 := Aside0.mk hg; have HB1 := Aside0.mk hb; clear hbox hb hg)
    | ((with_reducible refine gate_dst (N := 6) rfl ?_); refine box_event ?hg (N := 6) ?hd (cs := #[.int .i64 0, .int .i64 0, .int .i64 0, .bool false, .slice none 0 0, .slice none 0 0]) (t := 32) ?hr ?_; (case hd => rfl); (case hg => rfl); (case hr => first | (go_simp; done) | (go_simp; rfl)); intro b2 hg wb hbox hb; have O2 := Aside0.mk (blk_below O1.out hb); have B1' := Aside0.mk (blk_below B1.out hb); have B2 := Aside0.mk hbox; have G2 := Aside0.mk (show w.heap.size ≤ b2 by rw [hg]; exact below_size HB1.out); have HB2 := Aside0.mk (below_step HB1.out hb); have NE := Aside0.mk (show b1 ≠ b2 by rw [hg]; exact Nat.ne_of_lt (blk_lt B1.out)); have x0 : wb.cell? ⟨b1, 0, none⟩ = some (.bool ov) := (blk_cell B1'.out 0).trans rfl; have xf0 := blk_frozen B1'.out 0; have x1 : wb.cell? ⟨b1, 1, none⟩ = some (.slice A1 la.length c1) := (blk_cell B1'.out 1).trans rfl; have xf1 := blk_frozen B1'.out 1; have x2 : wb.cell? ⟨b1, 2, none⟩ = some (.slice A2 lp.length c2) := (blk_cell B1'.out 2).trans rfl; have xf2 := blk_frozen B1'.out 2; clear hbox hb hg)
    | ((with_reducible refine gate_callee (f := 33) rfl ?_); refine goesL_ (some 8) rfl rfl Try.func33 (by kernel_rfl) rfl #[.agg #[.bool ov, .slice A1 la.length c1, .slice A2 lp.length c2]] rfl (by (try simp only [List.map_toArray, List.map_cons, List.map_nil]); first | done | rfl | (simp only [List.length_drop, List.length_take]; rfl)) ?_; refine (origin_clone.calls ov A1 c1 la A2 c2 lp ov la lp _ (Kd.C_below H1.out HB2.out) hc1 (Kd.C_below H2.out HB2.out) hc2 HC.out).mono ?_; rintro e wc ⟨r1, r2, rfl, hr1, hr2, hb⟩; refine ⟨_, rfl, ?_⟩; obtain ⟨A3, c3, rfl⟩ := Kd.R_slice hr1; obtain ⟨A4, c4, rfl⟩ := Kd.R_slice hr2;  have O3 := Aside0.mk (blk_below O2.out hb); have B3 := Aside0.mk (blk_below B1'.out hb); have B4 := Aside0.mk (blk_below B2.out hb); have S1 := Aside0.mk (Kd.R_types (Kd.R_types hr1 B3.out (by decide)) B4.out (by decide)); have S2 := Aside0.mk (Kd.R_types (Kd.R_types hr2 B3.out (by decide)) B4.out (by decide)); have HB3 := Aside0.mk (below_step HB2.out hb); clear hr1 hr2 hb; have y0 : wc.cell? ⟨b1, 0, none⟩ = some (.bool ov) := (blk_cell B3.out 0).trans rfl; have yf0 := blk_frozen B3.out 0; have y1 : wc.cell? ⟨b1, 1, none⟩ = some (.slice A1 la.length c1) := (blk_cell B3.out 1).trans rfl; have yf1 := blk_frozen B3.out 1; have y2 : wc.cell? ⟨b1, 2, none⟩ = some (.slice A2 lp.length c2) := (blk_cell B3.out 2).trans rfl; have yf2 := blk_frozen B3.out 2))
  have gb : g ≠ b1 := Nat.ne_of_lt (by have := blk_lt HO.out; have := G1.out; omega)
  have hG1 : w.heap.size ≤ b1 := Nat.le_of_eq G1.out.symm
  have O5 := Aside0.mk (blk_far (p := ⟨b1, 2, none⟩) (blk_far (p := ⟨b1, 1, none⟩) (blk_far (p := ⟨b1, 0, none⟩) O3.out gb (.bool ov)) gb (.slice A3 la.length c3)) gb (.slice A4 lp.length c4))
  have B5 := Aside0.mk (blk_put (cs' := #[.bool ov, .slice A3 la.length c3, .slice A4 lp.length c4]) (blk_put (cs' := #[.bool ov, .slice A3 la.length c3, .slice A2 lp.length c2]) (blk_put (cs' := #[.bool ov, .slice A1 la.length c1, .slice A2 lp.length c2]) B3.out 0 (.bool ov) rfl) 1 (.slice A3 la.length c3) rfl) 2 (.slice A4 lp.length c4) rfl)
  have B6 := Aside0.mk (blk_far (p := ⟨b1, 2, none⟩) (blk_far (p := ⟨b1, 1, none⟩) (blk_far (p := ⟨b1, 0, none⟩) B4.out NE.out.symm (.bool ov)) NE.out.symm (.slice A3 la.length c3)) NE.out.symm (.slice A4 lp.length c4))
  have HB5 := Aside0.mk (below_set (below_set (below_set HB3.out hG1 (j := 0) (v := .bool ov)) hG1 (j := 1) (v := .slice A3 la.length c3)) hG1 (j := 2) (v := .slice A4 lp.length c4))
  have T1 := Aside0.mk (Kd.R_keep S1.out (KeepBut.set_ (KeepBut.set_ (KeepBut.set_ (KeepBut.refl wc b1 none) 0 (.bool ov)) 1 (.slice A3 la.length c3)) 2 (.slice A4 lp.length c4)) (fun k hk => hk.1.2))
  have T2 := Aside0.mk (Kd.R_keep S2.out (KeepBut.set_ (KeepBut.set_ (KeepBut.set_ (KeepBut.refl wc b1 none) 0 (.bool ov)) 1 (.slice A3 la.length c3)) 2 (.slice A4 lp.length c4)) (fun k hk => hk.1.2))
  clear S1 S2 HB3 B4 B3 O3 y0 y1 y2 yf0 yf1 yf2 x0 x1 x2 xf0 xf1 xf2
  generalize (((wc.setCell ⟨b1, 0, none⟩ (.bool ov)).setCell ⟨b1, 1, none⟩ (.slice A3 la.length c3)).setCell ⟨b1, 2, none⟩ (.slice A4 lp.length c4)) = wd at O5 B5 B6 HB5 T1 T2 ⊢
  refine start_ (n := 13) (S := fun w' => w'.cell? ⟨g, 3, none⟩ = some (.int .i64 s.node) ∧ w'.cell? ⟨b1, 0, none⟩ = some (.bool ov) ∧ w'.cell? ⟨b1, 1, none⟩ = some (.slice A3 la.length c3) ∧ w'.cell? ⟨b1, 2, none⟩ = some (.slice A4 lp.length c4)) (ds := []) #[false, false, false, false, false, false, false, false, false, false, false, false, false] (by kernel_rfl) rfl rfl ⟨(blk_cell O5.out 3).trans rfl, (blk_cell B5.out 0).trans rfl, (blk_cell B5.out 1).trans rfl, (blk_cell B5.out 2).trans rfl⟩ (fun hHeld => ?_); refine with_tabW wi.tab2 wi.bits2 (fun HT_ HW_ => ?_)
  replace O5 := Aside0.mk (blk_drew O5.out)
  replace B6 := Aside0.mk (blk_drew B6.out)
  replace HB5 := Aside0.mk (below_drew1 HB5.out)
  replace T1 := Aside0.mk (Kd.R_drew T1.out)
  replace T2 := Aside0.mk (Kd.R_drew T2.out)
  replace B5 := Aside0.mk (blk_drew B5.out)
  generalize wd.drew = we at O5 B5 B6 HB5 T1 T2 hHeld ⊢
  refine pz 0 9 HT_ rfl rfl (by kernel_rfl) (fun _ _ _ h => h) (Or.inl ⟨by rfl, by intro w'; go_simp; with_reducible rfl⟩) (by simp only [Act.put, List.setIfInBounds_toArray, List.set_cons_zero, List.set_cons_succ, i64_w, i32_w]; rfl) ?_
  refine pz 1 10 HT_ rfl rfl (by kernel_rfl) (fun _ _ _ h => h) (Or.inl ⟨by rfl, by intro w'; go_simp; with_reducible rfl⟩) (by simp only [Act.put, List.setIfInBounds_toArray, List.set_cons_zero, List.set_cons_succ, i64_w, i32_w]; rfl) ?_
  refine pz 2 11 HT_ rfl rfl (by kernel_rfl) (fun _ _ _ h => h) (Or.inl ⟨by rfl, by intro w'; go_simp; with_reducible rfl⟩) (by simp only [Act.put, List.setIfInBounds_toArray, List.set_cons_zero, List.set_cons_succ, i64_w, i32_w]; rfl) ?_
  refine pz 4 13 HT_ rfl rfl (by kernel_rfl) (fun _ _ _ h => h) (Or.inl ⟨by rfl, by intro w'; go_simp; with_reducible rfl⟩) (by simp only [Act.put, List.setIfInBounds_toArray, List.set_cons_zero, List.set_cons_succ, i64_w, i32_w]; rfl) ?_
  refine pz 5 14 HT_ rfl rfl (by kernel_rfl) (fun _ _ _ h => h) (Or.inl ⟨by rfl, by intro w'; go_simp; with_reducible rfl⟩) (by simp only [Act.put, List.setIfInBounds_toArray, List.set_cons_zero, List.set_cons_succ, i64_w, i32_w]; rfl) ?_
  refine pz 7 16 HT_ rfl rfl (by kernel_rfl) (fun _ _ _ h => h) (Or.inl ⟨by rfl, by intro w'; go_simp; with_reducible rfl⟩) (by simp only [Act.put, List.setIfInBounds_toArray, List.set_cons_zero, List.set_cons_succ, i64_w, i32_w]; rfl) ?_
  refine pz 9 18 HT_ rfl rfl (by kernel_rfl) (fun _ _ _ h => h) (Or.inl ⟨by rfl, by intro w'; go_simp; with_reducible rfl⟩) (by simp only [Act.put, List.setIfInBounds_toArray, List.set_cons_zero, List.set_cons_succ, i64_w, i32_w]; rfl) ?_
  refine tz 3 12 HT_ HW_ rfl rfl (by kernel_rfl) (fun _ _ _ h => h) (Or.inl ⟨by rfl, by rintro w' ⟨s0, s1, s2, s3⟩; go_simp; with_reducible rfl⟩) hHeld (by simp only [Act.put, List.setIfInBounds_toArray, List.set_cons_zero, List.set_cons_succ, i64_w, i32_w]; rfl) ?_
  refine tz 6 15 HT_ HW_ rfl rfl (by kernel_rfl) (fun _ _ _ h => h) (Or.inl ⟨by rfl, by rintro w' ⟨s0, s1, s2, s3⟩; go_simp; with_reducible rfl⟩) hHeld (by simp only [Act.put, List.setIfInBounds_toArray, List.set_cons_zero, List.set_cons_succ, i64_w, i32_w]; rfl) ?_
  refine tz 8 17 HT_ HW_ rfl rfl (by kernel_rfl) (fun _ _ _ h => h) (Or.inl ⟨by rfl, by rintro w' ⟨s0, s1, s2, s3⟩; go_simp; with_reducible rfl⟩) hHeld (by simp only [Act.put, List.setIfInBounds_toArray, List.set_cons_zero, List.set_cons_succ, i64_w, i32_w]; rfl) ?_
  refine tz 10 19 HT_ HW_ rfl rfl (by kernel_rfl) (fun _ _ _ h => h) (Or.inl ⟨by rfl, by rintro w' ⟨s0, s1, s2, s3⟩; go_simp; with_reducible rfl⟩) hHeld (by simp only [Act.put, List.setIfInBounds_toArray, List.set_cons_zero, List.set_cons_succ, i64_w, i32_w]; rfl) ?_
  refine pz 11 20 HT_ rfl rfl (by kernel_rfl) (fun _ _ _ h => h) (Or.inl ⟨by rfl, by intro w'; go_simp; with_reducible rfl⟩) (by simp only [Act.put, List.setIfInBounds_toArray, List.set_cons_zero, List.set_cons_succ, i64_w, i32_w]; rfl) ?_
  refine one_ (i := 12) (N := none) #[true, true, true, true, true, true, true, true, true, true, true, true, true] rfl rfl (one_of HT_.out (by kernel_rfl)) (by decide) (fun K hK => ?_)
  have z0 : we.cell? ⟨b2, 0, none⟩ = some (.int .i64 0) := (blk_cell B6.out 0).trans rfl; have zf0 := blk_frozen B6.out 0; have z1 : we.cell? ⟨b2, 1, none⟩ = some (.int .i64 0) := (blk_cell B6.out 1).trans rfl; have zf1 := blk_frozen B6.out 1; have z2 : we.cell? ⟨b2, 2, none⟩ = some (.int .i64 0) := (blk_cell B6.out 2).trans rfl; have zf2 := blk_frozen B6.out 2; have z3 : we.cell? ⟨b2, 3, none⟩ = some (.bool false) := (blk_cell B6.out 3).trans rfl; have zf3 := blk_frozen B6.out 3; have z4 : we.cell? ⟨b2, 4, none⟩ = some (.slice none 0 0) := (blk_cell B6.out 4).trans rfl; have zf4 := blk_frozen B6.out 4; have z5 : we.cell? ⟨b2, 5, none⟩ = some (.slice none 0 0) := (blk_cell B6.out 5).trans rfl; have zf5 := blk_frozen B6.out 5
  refine skip_ (w1 := ?_) (by rfl) rfl ?_ ?_
  rotate_left
  · go_simp
    rfl
  have gb2 : g ≠ b2 := Nat.ne_of_lt (by have := blk_lt HO.out; have := G2.out; omega)
  have O7 := Aside0.mk (blk_far (p := ⟨b2, 5, none⟩) (blk_far (p := ⟨b2, 4, none⟩) (blk_far (p := ⟨b2, 3, none⟩) (blk_far (p := ⟨b2, 2, none⟩) (blk_far (p := ⟨b2, 1, none⟩) (blk_far (p := ⟨b2, 0, none⟩) O5.out gb2 (.int .i64 s.node)) gb2 (.int .i64 q)) gb2 (.int .i64 0)) gb2 (.bool ov)) gb2 (.slice A3 la.length c3)) gb2 (.slice A4 lp.length c4))
  have B7 := Aside0.mk (blk_far (p := ⟨b2, 5, none⟩) (blk_far (p := ⟨b2, 4, none⟩) (blk_far (p := ⟨b2, 3, none⟩) (blk_far (p := ⟨b2, 2, none⟩) (blk_far (p := ⟨b2, 1, none⟩) (blk_far (p := ⟨b2, 0, none⟩) B5.out NE.out (.int .i64 s.node)) NE.out (.int .i64 q)) NE.out (.int .i64 0)) NE.out (.bool ov)) NE.out (.slice A3 la.length c3)) NE.out (.slice A4 lp.length c4))
  have B8 := Aside0.mk (blk_put (cs' := #[.int .i64 s.node, .int .i64 q, .int .i64 0, .bool ov, .slice A3 la.length c3, .slice A4 lp.length c4]) (blk_put (cs' := #[.int .i64 s.node, .int .i64 q, .int .i64 0, .bool ov, .slice A3 la.length c3, .slice none 0 0]) (blk_put (cs' := #[.int .i64 s.node, .int .i64 q, .int .i64 0, .bool ov, .slice none 0 0, .slice none 0 0]) (blk_put (cs' := #[.int .i64 s.node, .int .i64 q, .int .i64 0, .bool false, .slice none 0 0, .slice none 0 0]) (blk_put (cs' := #[.int .i64 s.node, .int .i64 q, .int .i64 0, .bool false, .slice none 0 0, .slice none 0 0]) (blk_put (cs' := #[.int .i64 s.node, .int .i64 0, .int .i64 0, .bool false, .slice none 0 0, .slice none 0 0]) B6.out 0 (.int .i64 s.node) rfl) 1 (.int .i64 q) rfl) 2 (.int .i64 0) rfl) 3 (.bool ov) rfl) 4 (.slice A3 la.length c3) rfl) 5 (.slice A4 lp.length c4) rfl)
  have HB8 := Aside0.mk (below_set (below_set (below_set (below_set (below_set (below_set HB5.out G2.out (j := 0) (v := .int .i64 s.node)) G2.out (j := 1) (v := .int .i64 q)) G2.out (j := 2) (v := .int .i64 0)) G2.out (j := 3) (v := .bool ov)) G2.out (j := 4) (v := .slice A3 la.length c3)) G2.out (j := 5) (v := .slice A4 lp.length c4))
  have T3 := Aside0.mk (Kd.R_keep T1.out (KeepBut.set_ (KeepBut.set_ (KeepBut.set_ (KeepBut.set_ (KeepBut.set_ (KeepBut.set_ (KeepBut.refl we b2 none) 0 (.int .i64 s.node)) 1 (.int .i64 q)) 2 (.int .i64 0)) 3 (.bool ov)) 4 (.slice A3 la.length c3)) 5 (.slice A4 lp.length c4)) (fun k hk => hk.2))
  have T4 := Aside0.mk (Kd.R_keep T2.out (KeepBut.set_ (KeepBut.set_ (KeepBut.set_ (KeepBut.set_ (KeepBut.set_ (KeepBut.set_ (KeepBut.refl we b2 none) 0 (.int .i64 s.node)) 1 (.int .i64 q)) 2 (.int .i64 0)) 3 (.bool ov)) 4 (.slice A3 la.length c3)) 5 (.slice A4 lp.length c4)) (fun k hk => hk.2))
  clear T1 T2 HB5 B6 z0 z1 z2 z3 z4 z5 zf0 zf1 zf2 zf3 zf4 zf5
  generalize ((((((we.setCell ⟨b2, 0, none⟩ (.int .i64 s.node)).setCell ⟨b2, 1, none⟩ (.int .i64 q)).setCell ⟨b2, 2, none⟩ (.int .i64 0)).setCell ⟨b2, 3, none⟩ (.bool ov)).setCell ⟨b2, 4, none⟩ (.slice A3 la.length c3)).setCell ⟨b2, 5, none⟩ (.slice A4 lp.length c4)) = wf at O7 B7 B8 HB8 T3 T4 ⊢
  refine hK.out _ _ ⟨(blk_cell O7.out 3).trans rfl, (blk_cell B7.out 0).trans rfl, (blk_cell B7.out 1).trans rfl, (blk_cell B7.out 2).trans rfl⟩ (fun hHeld => ?_)
  clear hK K
  refine done_ (done_of HT_.out (by kernel_rfl)) ?_
  try go_wp2
  refine bodyPost_ret (results_cell_row rfl _ _ b2 32 #[.int .i64 s.node, .int .i64 q, .int .i64 0, .bool ov, .slice A3 la.length c3, .slice A4 lp.length c4] (0, 0) _ rfl B8.out Try.underlying32 rfl (by kernel_rfl)) rfl ?_
  exact ⟨_, _, rfl, FkA.of_R T3.out (fun k hk => Nat.lt_of_lt_of_le hk HB2.out.size), FkP.of_R T4.out (fun k hk => Nat.lt_of_lt_of_le hk HB2.out.size), HB8.out⟩
end Go.Proofs.Ytdkfhlfojleejaa.HLsc
