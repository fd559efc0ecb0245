-- LAID by wip/hand.py, a program of this repository, over the kit's print: contracts of our own are put in. Lean checks it.
import Derived.Test.YtmknjjfdlkgidaaHLscx0
import Derived.Test.YtmknjjfdlkgidaaHLscx5
import Derived.Test.YtmknjjfdlkgidaaHLscx6
import Derived.Test.YtmknjjfdlkgidaaHLscx7
import Derived.Test.YtmknjjfdlkgidaaHLscx8
namespace Go.Proofs.Ytmknjjfdlkgidaa.HLsc
open Go.RowKit Go.Proofs.YtmknjjfdlkgidaaW.PrintWords Go.Proofs.YtmknjjfdlkgidaaW.PrintLast Go.Proofs.YtmknjjfdlkgidaaW.PrintMore
attribute [local go_sem] gtr_str leq_str max2_int min2_int max_two min_two max_three min_three max_four min_four   -- for this text's walks alone
set_option linter.unusedVariables false
set_option linter.unusedSimpArgs false

/-! ### lsa_Decode: function 19 -/
abbrev AdT := S43
abbrev PfT := S56
structure LSt where
 o : Int
 s : Int
 age : Int
 ov : Bool
 ad : List AdT
 pf : List PfT
def lsa_add.f (k : Nat) (a : LSt) (r : S52) : Option (Bool × LSt) :=
 if r.f0 = 1 then ((lsa_numbers.f k r.f1 [2, 4, 2, 1]).bind fun p => if p.2 = true then (match p.1 with | [x, y, z, u] => some (true, { a with o := x, s := y, age := z, ov := u == 1 }) | _ => none) else some (false, a))
 else if r.f0 = 2 then ((lsa_numbers.f k r.f1 [2, 2, 2]).bind fun p => if p.2 = true then (match p.1 with | [x, y, z] => if a.ad.length < 5864062014805 then some (true, { a with ad := a.ad ++ [⟨x, y, z⟩] }) else none | _ => none) else some (false, a))
 else if r.f0 = 3 then ((lsa_numbers.f k r.f1 [4, 1]).bind fun p => if p.2 = true then (match p.1 with | [x, y] => if a.pf.length < 8796093022208 then some (true, { a with pf := a.pf ++ [⟨IntKind.u32.wrap x, y⟩] }) else none | _ => none) else some (false, a))
 else some (r.f0 == 4, a)
/-- The advertisement's block. -/
def LBk (W : World) (g : Nat) (a : LSt) (va vp : Value) : Prop := W.heap[g]? = some (.cells #[.int .i64 a.o, .int .i64 a.s, .int .i64 a.age, .bool a.ov, va, vp] 25 (0, 0))
/-- What is neither block g nor a block of rows of adjacencies or prefixes lies as it lay. -/
def Stay (g : Nat) (W W' : World) : Prop := W.heap.size ≤ W'.heap.size ∧ ∀ k, k < W.heap.size → k ≠ g → (∀ cs, W.heap[k]? ≠ some (.cells cs 43 (0, 0))) → (∀ cs, W.heap[k]? ≠ some (.cells cs 56 (0, 0))) → W'.heap[k]? = W.heap[k]?
theorem Stay.of_below {g : Nat} {W W' : World} (h : Below W.heap.size W W') : Stay g W W' := ⟨h.size, fun k hk _ _ _ => h.block k hk⟩
theorem Stay.trans {g : Nat} {A B C : World} (h : Stay g A B) (k : Stay g B C) : Stay g A C := ⟨Nat.le_trans h.1 k.1, fun i hi h1 h2 h3 => by
 have e := h.2 i hi h1 h2 h3
 exact (k.2 i (Nat.lt_of_lt_of_le hi h.1) h1 (by rw [e]; exact h2) (by rw [e]; exact h3)).trans e⟩
theorem Stay.set {g : Nat} (W : World) (j : Nat) (v : Value) : Stay g W (W.setCell ⟨g, j, none⟩ v) := ⟨by simp, fun k _ h _ _ => Below.heap_setCell _ _ _ _ h⟩
def AddPost (z g : Nat) (w : World) (b : Bool) (a : LSt) (e : Ending) (w' : World) : Prop :=
 e = .returned (.bool b) ∧ ∃ va vp, LBk w' g a va vp ∧ Kd.R k43 43 w' z (fun _ => True) va a.ad ∧ Kd.R k56 56 w' z (fun _ => True) vp a.pf ∧ Stay g w w' ∧ Below z w w'
theorem ca_ {W : World} {a : Addr} {v : Value} (h : W.cell? a = some v) (o : Obj) : (W.alloc o).cell? a = some v := ((below_alloc (Below.refl _ _) o).cell (World.block_lt_of_cell? W _ h)).trans h
theorem C_lit (W : World) (xs : List Int) (hx : xs.length ≤ 1000) : Kd.C (Kd.int .i64) (W.alloc (.cells (xs.map (Value.int .i64)).toArray 3)) (some ⟨W.heap.size, 0, none⟩) xs.length xs := by
 have h2 := World.ownsRow_lit (base := W.heap.size) (e := 3) (size := 1) W (xs.map (Value.int .i64)).toArray xs.length (Nat.le_refl _) (by simp only [maxLen]; omega) (by simp)
 have h3 : Kd.R (Kd.int .i64) 3 (W.alloc (.cells (xs.map (Value.int .i64)).toArray 3)) W.heap.size (fun _ => True) (.slice (some ⟨W.heap.size, 0, none⟩) xs.length xs.length) xs := Kd.R_of_own (by simpa [encs] using h2) (fun _ _ => trivial)
 exact (Kd.R_reads' h3).2.2
theorem V_of_C {w : World} {A : Option Addr} {c : Nat} {xs : List Int} (hc : xs.length ≤ c) (h : Kd.C (Kd.int .u8) w A xs.length xs) : Kd.V (Kd.int .u8) 5 w w.heap.size (fun _ => True) (.slice A xs.length c) xs :=
 ⟨A, c, rfl, hc, fun W' hW => Kd.Heap.C (Kd.heap_int _) (fun k hk => hW k trivial hk) h⟩
set_option maxHeartbeats 8000000 in
set_option maxRecDepth 100000 in
theorem add_other (z g : Nat) (a : LSt) (va vp : Value) (t : Int) (A : Option Addr) (c : Nat) (val : List Int) (w : World) (hz : z ≤ g) (hL : LBk w g a va vp) (hA : Kd.R k43 43 w z (fun _ => True) va a.ad) (hP : Kd.R k56 56 w z (fun _ => True) vp a.pf)
  (h1 : t ≠ 1) (h2 : t ≠ 2) (h3 : t ≠ 3) :
  Calls Try.prog 39 #[.pointer (some ⟨g, 0, none⟩), .agg #[.int .i64 t, .slice A val.length c]] w (AddPost z g w (t == 4) a) := by
 have q1 : (t == 1) = false := by simpa using h1
 have q2 : (t == 2) = false := by simpa using h2
 have q3 : (t == 3) = false := by simpa using h3
 have HL := Aside0.mk hL
 have HA := Aside0.mk hA
 have HP := Aside0.mk hP
 clear hL hA hP h1 h2 h3
 go_enter Try.func39, Try.ntmps39
 go_wp2_with (
  first
  | ((with_reducible refine gate_dst (N := 3) rfl ?_); refine bx_ 3 #[.int .i64 t, .slice A val.length c] 52 rfl rfl ?hr ?_; (case hr => go_simp; try rfl); intro b3 hg wa hbox hb; have B3 := Aside0.mk hbox; have HB := Aside0.mk hb; obtain ⟨x0, x1, xf0, xf1⟩ := c2_ B3; clear hbox hb hg))
 go_ret
 have hlt := blk_lt HL.out
 exact ⟨rfl, va, vp, blk_below HL.out HB.out, Kd.R_below HA.out HB.out, Kd.R_below HP.out HB.out, Stay.of_below HB.out, HB.out.mono (by omega)⟩
def lsa_add.T10 : Bool × List (List Nat × List Nat) := (true, [([], []), ([], []), ([1], [1]), ([2], [2]), ([3], [3]), ([], []), ([5], [5]), ([6], [6]), ([], []), ([8], [8]), ([9], [9]), ([], []), ([11], [11]), ([12], [12]), ([7, 10, 13], [7, 10, 13]), ([14], [14]), ([4, 15], [4, 15]), ([0, 0, 1, 2, 3, 4, 5, 6, 7, 8, 9, 10, 11, 12, 13, 14, 15, 16], [0]), ([17, 0, 1, 2, 3, 4, 5, 6, 7, 8, 9, 10, 11, 12, 13, 14, 15, 16], [17]), ([18, 16, 16, 0, 1, 2, 3, 4, 5, 6, 7, 8, 9, 10, 11, 12, 13, 14, 15, 16], [16, 18])])
def lsa_add.B10 : List Nat := [0, 0, 2, 6, 14, 0, 32, 96, 0, 256, 768, 0, 2048, 6144, 16352, 32736, 65534, 131071, 262143, 524287]
theorem lsa_add.tab10 : rtab .any (opsOf Try.f39 10) = lsa_add.T10 := by kernel_rfl
theorem lsa_add.bits10 : waitsOk lsa_add.T10.2 lsa_add.B10 = true := by kernel_rfl
set_option maxHeartbeats 8000000 in
set_option maxRecDepth 100000 in
theorem add_two (k z g : Nat) (a : LSt) (va vp : Value) (A : Option Addr) (c : Nat) (val : List Int) (n : List Int) (w : World) (hz : z ≤ g) (hc : val.length ≤ c) (hC : Kd.C (Kd.int .u8) w A val.length val) (hL : LBk w g a va vp) (hA : Kd.R k43 43 w z (fun _ => True) va a.ad) (hP : Kd.R k56 56 w z (fun _ => True) vp a.pf)
  (x y u : Int) (hn : lsa_numbers.f k val [2, 2, 2] = some ([x, y, u], true)) (hl : a.ad.length < 5864062014805) :
  Calls Try.prog 39 #[.pointer (some ⟨g, 0, none⟩), .agg #[.int .i64 2, .slice A val.length c]] w (AddPost z g w true { a with ad := a.ad ++ [⟨x, y, u⟩] }) := by
 obtain ⟨Aa, ca, rfl⟩ := Kd.R_slice hA
 have HL := Aside0.mk hL
 have HA := Aside0.mk hA
 have HP := Aside0.mk hP
 have HC := Aside0.mk hC
 have Hc := Aside0.mk hc
 have HN := Aside0.mk hn
 clear hL hA hP hC hc hn
 go_enter Try.func39, Try.ntmps39
 go_wp2_with (
  first
  | ((with_reducible refine gate_dst (N := 3) rfl ?_); refine bx_ 3 #[.int .i64 2, .slice A val.length c] 52 rfl rfl ?hr ?_; (case hr => go_simp; try rfl); intro b3 hg wa hbox hb; have B3 := Aside0.mk hbox; have HB := Aside0.mk hb; obtain ⟨x0, x1, xf0, xf1⟩ := c2_ B3; clear hbox hb hg)
  | ((with_reducible refine gate_callee (f := 61) rfl ?_); refine goesL_ (some 55) rfl rfl Try.func61 (by kernel_rfl) rfl #[.slice A val.length c, .slice (some ⟨wa.heap.size, 0, none⟩) 3 3] rfl (by (try simp only [List.map_toArray, List.map_cons, List.map_nil]); first | done | rfl | (simp only [List.length_drop, List.length_take]; rfl)) ?_; refine (lsa_numbers.calls k (fun _ => True) A c val (some ⟨wa.heap.size, 0, none⟩) 3 [2, 2, 2] [x, y, u] true _ (V_of_C Hc.out (Kd.C_alloc (Kd.C_below HC.out HB.out) _)) (C_lit wa [2, 2, 2] (by simp)) (by simp) HN.out).mono ?_; rintro e w1 ⟨v1, rfl, hR, hb1⟩; refine ⟨_, rfl, ?_⟩; obtain ⟨gn, cn, rfl, hgn1, hgn2, cln, hgn3⟩ := Kd.R_form hR (by simp); have HR := Aside0.mk hR; have HGN := Aside0.mk hgn3; have HB1 := Aside0.mk (below_step (below_alloc HB.out _) hb1); clear hR hb1 hgn3))
 have L1 := Aside0.mk (show LBk w1 g a (.slice Aa a.ad.length ca) vp from blk_below HL.out HB1.out)
 have A1 := Aside0.mk (Kd.R_below HA.out HB1.out)
 have P1 := Aside0.mk (Kd.R_below HP.out HB1.out)
 have hglt := blk_lt HL.out
 have n0 := (Kd.R_cell (0 : Int) HR.out 0 (by decide) (by simp)).1
 have n1 := (Kd.R_cell (0 : Int) HR.out 1 (by decide) (by simp)).1
 have n2 := (Kd.R_cell (0 : Int) HR.out 2 (by decide) (by simp)).1
 replace n0 : w1.cell? ⟨gn, 0, none⟩ = some (.int .i64 x) := n0
 replace n1 : w1.cell? ⟨gn, 1, none⟩ = some (.int .i64 y) := n1
 replace n2 : w1.cell? ⟨gn, 2, none⟩ = some (.int .i64 u) := n2
 have l4 : w1.cell? ⟨g, 4, none⟩ = some (.slice Aa a.ad.length ca) := (blk_cell L1.out 4).trans rfl
 clear x0 x1 xf0 xf1
 refine start_ (n := 20) (S := fun w' => w'.cell? ⟨g, 4, none⟩ = some (.slice Aa a.ad.length ca) ∧ w'.cell? ⟨gn, 0, none⟩ = some (.int .i64 x) ∧ w'.cell? ⟨gn, 1, none⟩ = some (.int .i64 y) ∧ w'.cell? ⟨gn, 2, none⟩ = some (.int .i64 u)) (ds := [19]) #[false, false, false, false, false, false, false, false, false, false, false, false, false, false, false, false, false, false, false, false] (by kernel_rfl) rfl rfl ⟨l4, n0, n1, n2⟩ (fun hHeld => ?_); refine with_tabW lsa_add.tab10 lsa_add.bits10 (fun HT_ HW_ => ?_)
 replace L1 := Aside0.mk (show LBk w1.drew g a (.slice Aa a.ad.length ca) vp from blk_drew L1.out)
 replace A1 := Aside0.mk (Kd.R_drew A1.out)
 replace P1 := Aside0.mk (Kd.R_drew P1.out)
 replace HGN := Aside0.mk (blk_drew HGN.out)
 replace HB1 := Aside0.mk (below_drew1 HB1.out)
 have hsz : g < w1.drew.heap.size := blk_lt L1.out
 clear l4 n0 n1 n2 HR
 generalize w1.drew = wd at L1 A1 P1 HGN HB1 hHeld hsz ⊢
 refine py 0 59 HT_ ?_
 refine py 1 60 HT_ ?_
 refine py 2 61 HT_ ?_
 refine py 3 62 HT_ ?_
 refine py 5 64 HT_ ?_
 refine py 8 67 HT_ ?_
 refine py 11 70 HT_ ?_
 refine ty 4 63 HT_ HW_ rfl (Or.inl ⟨by rfl, by rintro w' ⟨s0, s1, s2, s3⟩; go_simp; with_reducible rfl⟩) hHeld ?_
 refine ty 6 65 HT_ HW_ rfl (Or.inl ⟨by rfl, by rintro w' ⟨s0, s1, s2, s3⟩; go_simp; with_reducible rfl⟩) hHeld ?_
 refine ty 7 66 HT_ HW_ rfl (Or.inl ⟨by rfl, by rintro w' ⟨s0, s1, s2, s3⟩; go_simp; with_reducible rfl⟩) hHeld ?_
 refine ty 9 68 HT_ HW_ rfl (Or.inl ⟨by rfl, by rintro w' ⟨s0, s1, s2, s3⟩; go_simp; with_reducible rfl⟩) hHeld ?_
 refine ty 10 69 HT_ HW_ rfl (Or.inl ⟨by rfl, by rintro w' ⟨s0, s1, s2, s3⟩; go_simp; with_reducible rfl⟩) hHeld ?_
 refine ty 12 71 HT_ HW_ rfl (Or.inl ⟨by rfl, by rintro w' ⟨s0, s1, s2, s3⟩; go_simp; with_reducible rfl⟩) hHeld ?_
 refine ty 13 72 HT_ HW_ rfl (Or.inl ⟨by rfl, by rintro w' ⟨s0, s1, s2, s3⟩; go_simp; with_reducible rfl⟩) hHeld ?_
 refine py 14 73 HT_ ?_
 refine one_ (i := 15) (N := some 74) #[true, true, true, true, true, true, true, true, true, true, true, true, true, true, true, true, false, false, false, false] rfl rfl (one_of HT_.out (by kernel_rfl)) (by decide) (fun K hK => ?_)
 refine value_ (v := .slice (some ⟨wd.heap.size, 0, none⟩) 1 1) (w1 := wd.alloc (.cells [.int .i64 x, .int .i64 y, .int .i64 u].toArray 43)) (by rfl) rfl (by first | (go_simp; done) | (go_simp; rfl)) ?_
 refine hK.out _ _ ⟨(blk_cell (blk_alloc L1.out _) 4).trans rfl, ca_ hHeld.2.1 _, ca_ hHeld.2.2.1 _, ca_ hHeld.2.2.2 _⟩ (fun hHeld => ?_)
 clear hK K
 refine norm_ (a' := ?_) ?_ ?_
 rotate_left
 ·show Act.put _ (some 74) _ = _
  simp only [Act.put, List.setIfInBounds_toArray, List.set_cons_zero, List.set_cons_succ, i64_w, i32_w]
  rfl
 refine one_ (i := 16) (N := some 75) #[true, true, true, true, true, true, true, true, true, true, true, true, true, true, true, true, true, false, false, false] rfl rfl (one_of HT_.out (by kernel_rfl)) (by decide) (fun K hK => ?_)
 refine Kd.R_append_step k43 (w0 := wd) z (by rfl) (.tmp 63) (.tmp 74) 22 43 (.agg #[(.int .i64 0), (.int .i64 0), (.int .i64 0)]) 24 rfl Try.underlying22 info43 rfl (by decide) (by decide) (.slice Aa a.ad.length ca) a.ad ⟨x, y, u⟩ [.int .i64 x, .int .i64 y, .int .i64 u] (fun _ => True) (fun _ => False) rfl rfl (k43_mkM _ _ _ _) (fun _ h => h.elim) (fun _ _ => trivial) A1.out (Below.refl _ _) (by omega) (by omega) ?_
 intro v2 w2 hR2 hb2 hg2 hat2
 obtain ⟨A2, c2, rfl⟩ := Kd.R_slice hR2
 have eg := hg2.block g hsz (Kd.R_ne A1.out L1.out (by decide))
 have en := (hg2.block gn (blk_lt HGN.out) (Kd.R_ne A1.out HGN.out (by decide))).trans (Below.heap_alloc wd (.cells [.int .i64 x, .int .i64 y, .int .i64 u].toArray 43) gn (blk_lt HGN.out)).symm
 have L2 := Aside0.mk (show LBk w2 g a (.slice Aa a.ad.length ca) vp from eg.trans L1.out)
 have P2 := Aside0.mk (Kd.R_over P1.out A1.out (by decide) hg2)
 have S2 := Aside0.mk (show Stay g wd w2 from ⟨hg2.size, fun i hi h1 h2 h3 => hg2.block i hi (fun e => by
  obtain ⟨cs, hcs⟩ := Kd.R_typed A1.out i e.symm
  exact h2 cs hcs)⟩)
 have B2 := Aside0.mk hb2
 have R2 := Aside0.mk hR2
 refine hK.out _ _ ⟨(blk_cell L2.out 4).trans rfl, (World.cell?_of_block en).trans hHeld.2.1, (World.cell?_of_block en).trans hHeld.2.2.1, (World.cell?_of_block en).trans hHeld.2.2.2⟩ (fun hHeld => ?_)
 clear hK K eg en hg2 hb2 hR2
 refine norm_ (a' := ?_) ?_ ?_
 rotate_left
 ·show Act.put _ (some 75) _ = _
  simp only [Act.put, List.setIfInBounds_toArray, List.set_cons_zero, List.set_cons_succ, i64_w, i32_w]
  rfl
 refine py 17 76 HT_ ?_
 refine py 18 77 HT_ ?_
 have yc := (blk_cell L2.out 4).trans rfl
 have yf := blk_frozen L2.out 4
 refine last_ (i := 19) (N := none) #[true, true, true, true, true, true, true, true, true, true, true, true, true, true, true, true, true, true, true, true] rfl rfl (one_of HT_.out (by kernel_rfl)) (by decide) (fun K hK => ?_)
 refine skip_ (w1 := ?_) (by rfl) rfl ?_ ?_
 rotate_left
 ·go_simp
  rfl
 refine hK.out _ _ ?_
 clear hK K
 refine done_ (done_of HT_.out (by kernel_rfl)) ?_
 clear HT_ HW_ hHeld
 go_wp2_with fail
 go_ret
 have R3 := R2.out
 rw [show (a.ad ++ [(⟨x, y, u⟩ : AdT)]).length = a.ad.length + 1 by simp] at R3
 exact ⟨rfl, _, _, blk_put (cs' := #[.int .i64 a.o, .int .i64 a.s, .int .i64 a.age, .bool a.ov, .slice A2 (a.ad.length + 1) c2, vp]) L2.out 4 _ rfl, Kd.R_set R3 L2.out (by decide) _ _, Kd.R_set P2.out L2.out (by decide) _ _, ((Stay.of_below HB1.out).trans S2.out).trans (Stay.set _ _ _), ((HB1.out.mono (by omega)).trans B2.out).setCell (p := ⟨g, 4, none⟩) hz _⟩
set_option maxHeartbeats 8000000 in
set_option maxRecDepth 100000 in
theorem add_one_no (k z g : Nat) (a : LSt) (va vp : Value) (A : Option Addr) (c : Nat) (val : List Int) (n : List Int) (w : World) (hz : z ≤ g) (hc : val.length ≤ c) (hC : Kd.C (Kd.int .u8) w A val.length val) (hL : LBk w g a va vp) (hA : Kd.R k43 43 w z (fun _ => True) va a.ad) (hP : Kd.R k56 56 w z (fun _ => True) vp a.pf)
  (hn : lsa_numbers.f k val [2, 4, 2, 1] = some (n, false)) :
  Calls Try.prog 39 #[.pointer (some ⟨g, 0, none⟩), .agg #[.int .i64 1, .slice A val.length c]] w (AddPost z g w false a) := by
 have HL := Aside0.mk hL
 have HA := Aside0.mk hA
 have HP := Aside0.mk hP
 have HC := Aside0.mk hC
 have Hc := Aside0.mk hc
 have HN := Aside0.mk hn
 clear hL hA hP hC hc hn
 go_enter Try.func39, Try.ntmps39
 go_wp2_with (
  first
  | ((with_reducible refine gate_dst (N := 3) rfl ?_); refine bx_ 3 #[.int .i64 1, .slice A val.length c] 52 rfl rfl ?hr ?_; (case hr => go_simp; try rfl); intro b3 hg wa hbox hb; have B3 := Aside0.mk hbox; have HB := Aside0.mk hb; obtain ⟨x0, x1, xf0, xf1⟩ := c2_ B3; clear hbox hb hg)
  | ((with_reducible refine gate_callee (f := 61) rfl ?_); refine goesL_ (some 19) rfl rfl Try.func61 (by kernel_rfl) rfl #[.slice A val.length c, .slice (some ⟨wa.heap.size, 0, none⟩) 4 4] rfl (by (try simp only [List.map_toArray, List.map_cons, List.map_nil]); first | done | rfl | (simp only [List.length_drop, List.length_take]; rfl)) ?_; refine (lsa_numbers.calls k (fun _ => True) A c val (some ⟨wa.heap.size, 0, none⟩) 4 [2, 4, 2, 1] n false _ (V_of_C Hc.out (Kd.C_alloc (Kd.C_below HC.out HB.out) _)) (C_lit wa [2, 4, 2, 1] (by simp)) (by simp) HN.out).mono ?_; rintro e w1 ⟨v1, rfl, hR, hb1⟩; refine ⟨_, rfl, ?_⟩; obtain ⟨An, cn, rfl⟩ := Kd.R_slice hR; have HB1 := Aside0.mk (below_step (below_alloc HB.out _) hb1); clear hR hb1))
 go_ret
 have hlt := blk_lt HL.out
 exact ⟨rfl, va, vp, blk_below HL.out HB1.out, Kd.R_below HA.out HB1.out, Kd.R_below HP.out HB1.out, Stay.of_below HB1.out, HB1.out.mono (by omega)⟩
set_option maxHeartbeats 8000000 in
set_option maxRecDepth 100000 in
theorem add_two_no (k z g : Nat) (a : LSt) (va vp : Value) (A : Option Addr) (c : Nat) (val : List Int) (n : List Int) (w : World) (hz : z ≤ g) (hc : val.length ≤ c) (hC : Kd.C (Kd.int .u8) w A val.length val) (hL : LBk w g a va vp) (hA : Kd.R k43 43 w z (fun _ => True) va a.ad) (hP : Kd.R k56 56 w z (fun _ => True) vp a.pf)
  (hn : lsa_numbers.f k val [2, 2, 2] = some (n, false)) :
  Calls Try.prog 39 #[.pointer (some ⟨g, 0, none⟩), .agg #[.int .i64 2, .slice A val.length c]] w (AddPost z g w false a) := by
 have HL := Aside0.mk hL
 have HA := Aside0.mk hA
 have HP := Aside0.mk hP
 have HC := Aside0.mk hC
 have Hc := Aside0.mk hc
 have HN := Aside0.mk hn
 clear hL hA hP hC hc hn
 go_enter Try.func39, Try.ntmps39
 go_wp2_with (
  first
  | ((with_reducible refine gate_dst (N := 3) rfl ?_); refine bx_ 3 #[.int .i64 2, .slice A val.length c] 52 rfl rfl ?hr ?_; (case hr => go_simp; try rfl); intro b3 hg wa hbox hb; have B3 := Aside0.mk hbox; have HB := Aside0.mk hb; obtain ⟨x0, x1, xf0, xf1⟩ := c2_ B3; clear hbox hb hg)
  | ((with_reducible refine gate_callee (f := 61) rfl ?_); refine goesL_ (some 55) rfl rfl Try.func61 (by kernel_rfl) rfl #[.slice A val.length c, .slice (some ⟨wa.heap.size, 0, none⟩) 3 3] rfl (by (try simp only [List.map_toArray, List.map_cons, List.map_nil]); first | done | rfl | (simp only [List.length_drop, List.length_take]; rfl)) ?_; refine (lsa_numbers.calls k (fun _ => True) A c val (some ⟨wa.heap.size, 0, none⟩) 3 [2, 2, 2] n false _ (V_of_C Hc.out (Kd.C_alloc (Kd.C_below HC.out HB.out) _)) (C_lit wa [2, 2, 2] (by simp)) (by simp) HN.out).mono ?_; rintro e w1 ⟨v1, rfl, hR, hb1⟩; refine ⟨_, rfl, ?_⟩; obtain ⟨An, cn, rfl⟩ := Kd.R_slice hR; have HB1 := Aside0.mk (below_step (below_alloc HB.out _) hb1); clear hR hb1))
 go_ret
 have hlt := blk_lt HL.out
 exact ⟨rfl, va, vp, blk_below HL.out HB1.out, Kd.R_below HA.out HB1.out, Kd.R_below HP.out HB1.out, Stay.of_below HB1.out, HB1.out.mono (by omega)⟩
set_option maxHeartbeats 8000000 in
set_option maxRecDepth 100000 in
theorem add_three_no (k z g : Nat) (a : LSt) (va vp : Value) (A : Option Addr) (c : Nat) (val : List Int) (n : List Int) (w : World) (hz : z ≤ g) (hc : val.length ≤ c) (hC : Kd.C (Kd.int .u8) w A val.length val) (hL : LBk w g a va vp) (hA : Kd.R k43 43 w z (fun _ => True) va a.ad) (hP : Kd.R k56 56 w z (fun _ => True) vp a.pf)
  (hn : lsa_numbers.f k val [4, 1] = some (n, false)) :
  Calls Try.prog 39 #[.pointer (some ⟨g, 0, none⟩), .agg #[.int .i64 3, .slice A val.length c]] w (AddPost z g w false a) := by
 have HL := Aside0.mk hL
 have HA := Aside0.mk hA
 have HP := Aside0.mk hP
 have HC := Aside0.mk hC
 have Hc := Aside0.mk hc
 have HN := Aside0.mk hn
 clear hL hA hP hC hc hn
 go_enter Try.func39, Try.ntmps39
 go_wp2_with (
  first
  | ((with_reducible refine gate_dst (N := 3) rfl ?_); refine bx_ 3 #[.int .i64 3, .slice A val.length c] 52 rfl rfl ?hr ?_; (case hr => go_simp; try rfl); intro b3 hg wa hbox hb; have B3 := Aside0.mk hbox; have HB := Aside0.mk hb; obtain ⟨x0, x1, xf0, xf1⟩ := c2_ B3; clear hbox hb hg)
  | ((with_reducible refine gate_callee (f := 61) rfl ?_); refine goesL_ (some 85) rfl rfl Try.func61 (by kernel_rfl) rfl #[.slice A val.length c, .slice (some ⟨wa.heap.size, 0, none⟩) 2 2] rfl (by (try simp only [List.map_toArray, List.map_cons, List.map_nil]); first | done | rfl | (simp only [List.length_drop, List.length_take]; rfl)) ?_; refine (lsa_numbers.calls k (fun _ => True) A c val (some ⟨wa.heap.size, 0, none⟩) 2 [4, 1] n false _ (V_of_C Hc.out (Kd.C_alloc (Kd.C_below HC.out HB.out) _)) (C_lit wa [4, 1] (by simp)) (by simp) HN.out).mono ?_; rintro e w1 ⟨v1, rfl, hR, hb1⟩; refine ⟨_, rfl, ?_⟩; obtain ⟨An, cn, rfl⟩ := Kd.R_slice hR; have HB1 := Aside0.mk (below_step (below_alloc HB.out _) hb1); clear hR hb1))
 go_ret
 have hlt := blk_lt HL.out
 exact ⟨rfl, va, vp, blk_below HL.out HB1.out, Kd.R_below HA.out HB1.out, Kd.R_below HP.out HB1.out, Stay.of_below HB1.out, HB1.out.mono (by omega)⟩
def lsa_add.T15 : Bool × List (List Nat × List Nat) := (true, [([], []), ([], []), ([1], [1]), ([2], [2]), ([3], [3]), ([], []), ([5], [5]), ([6], [6]), ([7], [7]), ([], []), ([9], [9]), ([10], [10]), ([8, 11], [8, 11]), ([12], [12]), ([4, 13], [4, 13]), ([0, 0, 1, 2, 3, 4, 5, 6, 7, 8, 9, 10, 11, 12, 13, 14], [0]), ([15, 0, 1, 2, 3, 4, 5, 6, 7, 8, 9, 10, 11, 12, 13, 14], [15]), ([16, 14, 14, 0, 1, 2, 3, 4, 5, 6, 7, 8, 9, 10, 11, 12, 13, 14], [14, 16])])
def lsa_add.B15 : List Nat := [0, 0, 2, 6, 14, 0, 32, 96, 224, 0, 512, 1536, 4064, 8160, 16382, 32767, 65535, 131071]
theorem lsa_add.tab15 : rtab .any (opsOf Try.f39 15) = lsa_add.T15 := by kernel_rfl
theorem lsa_add.bits15 : waitsOk lsa_add.T15.2 lsa_add.B15 = true := by kernel_rfl
set_option maxHeartbeats 8000000 in
set_option maxRecDepth 100000 in
theorem add_three (k z g : Nat) (a : LSt) (va vp : Value) (A : Option Addr) (c : Nat) (val : List Int) (n : List Int) (w : World) (hz : z ≤ g) (hc : val.length ≤ c) (hC : Kd.C (Kd.int .u8) w A val.length val) (hL : LBk w g a va vp) (hA : Kd.R k43 43 w z (fun _ => True) va a.ad) (hP : Kd.R k56 56 w z (fun _ => True) vp a.pf)
  (x y : Int) (hn : lsa_numbers.f k val [4, 1] = some ([x, y], true)) (hl : a.pf.length < 8796093022208) :
  Calls Try.prog 39 #[.pointer (some ⟨g, 0, none⟩), .agg #[.int .i64 3, .slice A val.length c]] w (AddPost z g w true { a with pf := a.pf ++ [⟨IntKind.u32.wrap x, y⟩] }) := by
 obtain ⟨Aa, ca, rfl⟩ := Kd.R_slice hP
 have HL := Aside0.mk hL
 have HA := Aside0.mk hA
 have HP := Aside0.mk hP
 have HC := Aside0.mk hC
 have Hc := Aside0.mk hc
 have HN := Aside0.mk hn
 clear hL hA hP hC hc hn
 go_enter Try.func39, Try.ntmps39
 go_wp2_with (
  first
  | ((with_reducible refine gate_dst (N := 3) rfl ?_); refine bx_ 3 #[.int .i64 3, .slice A val.length c] 52 rfl rfl ?hr ?_; (case hr => go_simp; try rfl); intro b3 hg wa hbox hb; have B3 := Aside0.mk hbox; have HB := Aside0.mk hb; obtain ⟨x0, x1, xf0, xf1⟩ := c2_ B3; clear hbox hb hg)
  | ((with_reducible refine gate_callee (f := 61) rfl ?_); refine goesL_ (some 85) rfl rfl Try.func61 (by kernel_rfl) rfl #[.slice A val.length c, .slice (some ⟨wa.heap.size, 0, none⟩) 2 2] rfl (by (try simp only [List.map_toArray, List.map_cons, List.map_nil]); first | done | rfl | (simp only [List.length_drop, List.length_take]; rfl)) ?_; refine (lsa_numbers.calls k (fun _ => True) A c val (some ⟨wa.heap.size, 0, none⟩) 2 [4, 1] [x, y] true _ (V_of_C Hc.out (Kd.C_alloc (Kd.C_below HC.out HB.out) _)) (C_lit wa [4, 1] (by simp)) (by simp) HN.out).mono ?_; rintro e w1 ⟨v1, rfl, hR, hb1⟩; refine ⟨_, rfl, ?_⟩; obtain ⟨gn, cn, rfl, hgn1, hgn2, cln, hgn3⟩ := Kd.R_form hR (by simp); have HR := Aside0.mk hR; have HGN := Aside0.mk hgn3; have HB1 := Aside0.mk (below_step (below_alloc HB.out _) hb1); clear hR hb1 hgn3))
 have L1 := Aside0.mk (show LBk w1 g a va (.slice Aa a.pf.length ca) from blk_below HL.out HB1.out)
 have A1 := Aside0.mk (Kd.R_below HA.out HB1.out)
 have P1 := Aside0.mk (Kd.R_below HP.out HB1.out)
 have hglt := blk_lt HL.out
 have n0 := (Kd.R_cell (0 : Int) HR.out 0 (by decide) (by simp)).1
 have n1 := (Kd.R_cell (0 : Int) HR.out 1 (by decide) (by simp)).1
 replace n0 : w1.cell? ⟨gn, 0, none⟩ = some (.int .i64 x) := n0
 replace n1 : w1.cell? ⟨gn, 1, none⟩ = some (.int .i64 y) := n1
 have l4 : w1.cell? ⟨g, 5, none⟩ = some (.slice Aa a.pf.length ca) := (blk_cell L1.out 5).trans rfl
 clear x0 x1 xf0 xf1
 refine start_ (n := 18) (S := fun w' => w'.cell? ⟨g, 5, none⟩ = some (.slice Aa a.pf.length ca) ∧ w'.cell? ⟨gn, 0, none⟩ = some (.int .i64 x) ∧ w'.cell? ⟨gn, 1, none⟩ = some (.int .i64 y)) (ds := [17]) #[false, false, false, false, false, false, false, false, false, false, false, false, false, false, false, false, false, false] (by kernel_rfl) rfl rfl ⟨l4, n0, n1⟩ (fun hHeld => ?_); refine with_tabW lsa_add.tab15 lsa_add.bits15 (fun HT_ HW_ => ?_)
 replace L1 := Aside0.mk (show LBk w1.drew g a va (.slice Aa a.pf.length ca) from blk_drew L1.out)
 replace A1 := Aside0.mk (Kd.R_drew A1.out)
 replace P1 := Aside0.mk (Kd.R_drew P1.out)
 replace HGN := Aside0.mk (blk_drew HGN.out)
 replace HB1 := Aside0.mk (below_drew1 HB1.out)
 have hsz : g < w1.drew.heap.size := blk_lt L1.out
 clear l4 n0 n1 HR
 generalize w1.drew = wd at L1 A1 P1 HGN HB1 hHeld hsz ⊢
 refine py 0 89 HT_ ?_
 refine py 1 90 HT_ ?_
 refine py 2 91 HT_ ?_
 refine py 3 92 HT_ ?_
 refine py 5 94 HT_ ?_
 refine py 9 98 HT_ ?_
 refine ty 4 93 HT_ HW_ rfl (Or.inl ⟨by rfl, by rintro w' ⟨s0, s1, s2⟩; go_simp; with_reducible rfl⟩) hHeld ?_
 refine ty 6 95 HT_ HW_ rfl (Or.inl ⟨by rfl, by rintro w' ⟨s0, s1, s2⟩; go_simp; with_reducible rfl⟩) hHeld ?_
 refine ty 7 96 HT_ HW_ rfl (Or.inl ⟨by rfl, by rintro w' ⟨s0, s1, s2⟩; go_simp; with_reducible rfl⟩) hHeld ?_
 refine py 8 97 HT_ ?_
 refine ty 10 99 HT_ HW_ rfl (Or.inl ⟨by rfl, by rintro w' ⟨s0, s1, s2⟩; go_simp; with_reducible rfl⟩) hHeld ?_
 refine ty 11 100 HT_ HW_ rfl (Or.inl ⟨by rfl, by rintro w' ⟨s0, s1, s2⟩; go_simp; with_reducible rfl⟩) hHeld ?_
 refine py 12 101 HT_ ?_
 refine one_ (i := 13) (N := some 102) #[true, true, true, true, true, true, true, true, true, true, true, true, true, true, false, false, false, false] rfl rfl (one_of HT_.out (by kernel_rfl)) (by decide) (fun K hK => ?_)
 refine value_ (v := .slice (some ⟨wd.heap.size, 0, none⟩) 1 1) (w1 := wd.alloc (.cells [.int .u32 (IntKind.u32.wrap x), .int .i64 y].toArray 56)) (by rfl) rfl (by first | (go_simp; done) | (go_simp; rfl)) ?_
 refine hK.out _ _ ⟨(blk_cell (blk_alloc L1.out _) 5).trans rfl, ca_ hHeld.2.1 _, ca_ hHeld.2.2 _⟩ (fun hHeld => ?_)
 clear hK K
 refine norm_ (a' := ?_) ?_ ?_
 rotate_left
 ·show Act.put _ (some 102) _ = _
  simp only [Act.put, List.setIfInBounds_toArray, List.set_cons_zero, List.set_cons_succ, i64_w, i32_w]
  rfl
 refine one_ (i := 14) (N := some 103) #[true, true, true, true, true, true, true, true, true, true, true, true, true, true, true, false, false, false] rfl rfl (one_of HT_.out (by kernel_rfl)) (by decide) (fun K hK => ?_)
 refine Kd.R_append_step k56 (w0 := wd) z (by rfl) (.tmp 93) (.tmp 102) 23 56 (.agg #[(.int .u32 0), (.int .i64 0)]) 16 rfl Try.underlying23 info56 rfl (by decide) (by decide) (.slice Aa a.pf.length ca) a.pf ⟨IntKind.u32.wrap x, y⟩ [.int .u32 (IntKind.u32.wrap x), .int .i64 y] (fun _ => True) (fun _ => False) rfl rfl (k56_mkM _ _ _ _) (fun _ h => h.elim) (fun _ _ => trivial) P1.out (Below.refl _ _) (by omega) (by omega) ?_
 intro v2 w2 hR2 hb2 hg2 hat2
 obtain ⟨A2, c2, rfl⟩ := Kd.R_slice hR2
 have eg := hg2.block g hsz (Kd.R_ne P1.out L1.out (by decide))
 have en := (hg2.block gn (blk_lt HGN.out) (Kd.R_ne P1.out HGN.out (by decide))).trans (Below.heap_alloc wd (.cells [.int .u32 (IntKind.u32.wrap x), .int .i64 y].toArray 56) gn (blk_lt HGN.out)).symm
 have L2 := Aside0.mk (show LBk w2 g a va (.slice Aa a.pf.length ca) from eg.trans L1.out)
 have P2 := Aside0.mk (Kd.R_over A1.out P1.out (by decide) hg2)
 have S2 := Aside0.mk (show Stay g wd w2 from ⟨hg2.size, fun i hi h1 h2 h3 => hg2.block i hi (fun e => by
  obtain ⟨cs, hcs⟩ := Kd.R_typed P1.out i e.symm
  exact h3 cs hcs)⟩)
 have B2 := Aside0.mk hb2
 have R2 := Aside0.mk hR2
 refine hK.out _ _ ⟨(blk_cell L2.out 5).trans rfl, (World.cell?_of_block en).trans hHeld.2.1, (World.cell?_of_block en).trans hHeld.2.2⟩ (fun hHeld => ?_)
 clear hK K eg en hg2 hb2 hR2
 refine norm_ (a' := ?_) ?_ ?_
 rotate_left
 ·show Act.put _ (some 103) _ = _
  simp only [Act.put, List.setIfInBounds_toArray, List.set_cons_zero, List.set_cons_succ, i64_w, i32_w]
  rfl
 refine py 15 104 HT_ ?_
 refine py 16 105 HT_ ?_
 have yc := (blk_cell L2.out 5).trans rfl
 have yf := blk_frozen L2.out 5
 refine last_ (i := 17) (N := none) #[true, true, true, true, true, true, true, true, true, true, true, true, true, true, true, true, true, true] rfl rfl (one_of HT_.out (by kernel_rfl)) (by decide) (fun K hK => ?_)
 refine skip_ (w1 := ?_) (by rfl) rfl ?_ ?_
 rotate_left
 ·go_simp
  rfl
 refine hK.out _ _ ?_
 clear hK K
 refine done_ (done_of HT_.out (by kernel_rfl)) ?_
 clear HT_ HW_ hHeld
 go_wp2_with fail
 go_ret
 have R3 := R2.out
 rw [show (a.pf ++ [(⟨IntKind.u32.wrap x, y⟩ : PfT)]).length = a.pf.length + 1 by simp] at R3
 exact ⟨rfl, _, _, blk_put (cs' := #[.int .i64 a.o, .int .i64 a.s, .int .i64 a.age, .bool a.ov, va, .slice A2 (a.pf.length + 1) c2]) L2.out 5 _ rfl, Kd.R_set P2.out L2.out (by decide) _ _, Kd.R_set R3 L2.out (by decide) _ _, ((Stay.of_below HB1.out).trans S2.out).trans (Stay.set _ _ _), ((HB1.out.mono (by omega)).trans B2.out).setCell (p := ⟨g, 5, none⟩) hz _⟩
def lsa_add.T5 : Bool × List (List Nat × List Nat) := (true, [([], []), ([], []), ([], []), ([], []), ([], []), ([4], [4]), ([5], [5]), ([], []), ([7], [7]), ([8], [8]), ([], []), ([10], [10]), ([11], [11]), ([], []), ([13], [13]), ([14], [14]), ([15], [15]), ([0, 0, 4, 5, 6, 9, 12, 15], [0]), ([17, 0, 4, 5, 6, 9, 12, 15], [17]), ([18, 6, 0, 4, 5, 6, 9, 12, 15], [6, 18]), ([1, 0, 1, 4, 5, 6, 7, 8, 9, 12, 15, 17, 18, 19], [1]), ([20, 0, 1, 4, 5, 6, 7, 8, 9, 12, 15, 17, 18, 19], [20]), ([21, 9, 19, 0, 1, 4, 5, 6, 7, 8, 9, 12, 15, 17, 18, 19], [9, 21]), ([2, 0, 1, 2, 4, 5, 6, 7, 8, 9, 10, 11, 12, 15, 17, 18, 19, 20, 21, 22], [2]), ([23, 0, 1, 2, 4, 5, 6, 7, 8, 9, 10, 11, 12, 15, 17, 18, 19, 20, 21, 22], [23]), ([24, 12, 22, 0, 1, 2, 4, 5, 6, 7, 8, 9, 10, 11, 12, 15, 17, 18, 19, 20, 21, 22], [12, 24]), ([3, 0, 1, 2, 3, 4, 5, 6, 7, 8, 9, 10, 11, 12, 13, 14, 15, 16, 17, 18, 19, 20, 21, 22, 23, 24, 25], [3]), ([26, 0, 1, 2, 3, 4, 5, 6, 7, 8, 9, 10, 11, 12, 13, 14, 15, 16, 17, 18, 19, 20, 21, 22, 23, 24, 25], [26]), ([27, 16, 25, 0, 1, 2, 3, 4, 5, 6, 7, 8, 9, 10, 11, 12, 13, 14, 15, 16, 17, 18, 19, 20, 21, 22, 23, 24, 25], [16, 27])])
def lsa_add.B5 : List Nat := [0, 0, 0, 0, 0, 16, 48, 0, 128, 384, 0, 1024, 3072, 0, 8192, 24576, 57344, 65521, 196593, 458737, 983027, 2031603, 4128755, 8323063, 16711671, 33488887, 67108863, 134217727, 268435455]
theorem lsa_add.tab5 : rtab .any (opsOf Try.f39 5) = lsa_add.T5 := by kernel_rfl
theorem lsa_add.bits5 : waitsOk lsa_add.T5.2 lsa_add.B5 = true := by kernel_rfl
set_option maxHeartbeats 8000000 in
set_option maxRecDepth 100000 in
theorem add_one (k z g : Nat) (a : LSt) (va vp : Value) (A : Option Addr) (c : Nat) (val : List Int) (n : List Int) (w : World) (hz : z ≤ g) (hc : val.length ≤ c) (hC : Kd.C (Kd.int .u8) w A val.length val) (hL : LBk w g a va vp) (hA : Kd.R k43 43 w z (fun _ => True) va a.ad) (hP : Kd.R k56 56 w z (fun _ => True) vp a.pf)
  (x y u v : Int) (hn : lsa_numbers.f k val [2, 4, 2, 1] = some ([x, y, u, v], true)) :
  Calls Try.prog 39 #[.pointer (some ⟨g, 0, none⟩), .agg #[.int .i64 1, .slice A val.length c]] w (AddPost z g w true { a with o := x, s := y, age := u, ov := v == 1 }) := by
 have HL := Aside0.mk hL
 have HA := Aside0.mk hA
 have HP := Aside0.mk hP
 have HC := Aside0.mk hC
 have Hc := Aside0.mk hc
 have HN := Aside0.mk hn
 clear hL hA hP hC hc hn
 go_enter Try.func39, Try.ntmps39
 go_wp2_with (
  first
  | ((with_reducible refine gate_dst (N := 3) rfl ?_); refine bx_ 3 #[.int .i64 1, .slice A val.length c] 52 rfl rfl ?hr ?_; (case hr => go_simp; try rfl); intro b3 hg wa hbox hb; have B3 := Aside0.mk hbox; have HB := Aside0.mk hb; obtain ⟨x0, x1, xf0, xf1⟩ := c2_ B3; clear hbox hb hg)
  | ((with_reducible refine gate_callee (f := 61) rfl ?_); refine goesL_ (some 19) rfl rfl Try.func61 (by kernel_rfl) rfl #[.slice A val.length c, .slice (some ⟨wa.heap.size, 0, none⟩) 4 4] rfl (by (try simp only [List.map_toArray, List.map_cons, List.map_nil]); first | done | rfl | (simp only [List.length_drop, List.length_take]; rfl)) ?_; refine (lsa_numbers.calls k (fun _ => True) A c val (some ⟨wa.heap.size, 0, none⟩) 4 [2, 4, 2, 1] [x, y, u, v] true _ (V_of_C Hc.out (Kd.C_alloc (Kd.C_below HC.out HB.out) _)) (C_lit wa [2, 4, 2, 1] (by simp)) (by simp) HN.out).mono ?_; rintro e w1 ⟨v1, rfl, hR, hb1⟩; refine ⟨_, rfl, ?_⟩; obtain ⟨gn, cn, rfl, hgn1, hgn2, cln, hgn3⟩ := Kd.R_form hR (by simp); have HR := Aside0.mk hR; have HGN := Aside0.mk hgn3; have HB1 := Aside0.mk (below_step (below_alloc HB.out _) hb1); clear hR hb1 hgn3))
 have L1 := Aside0.mk (show LBk w1 g a va vp from blk_below HL.out HB1.out)
 have A1 := Aside0.mk (Kd.R_below HA.out HB1.out)
 have P1 := Aside0.mk (Kd.R_below HP.out HB1.out)
 have hglt := blk_lt HL.out
 have n0 := (Kd.R_cell (0 : Int) HR.out 0 (by decide) (by simp)).1
 have n1 := (Kd.R_cell (0 : Int) HR.out 1 (by decide) (by simp)).1
 have n2 := (Kd.R_cell (0 : Int) HR.out 2 (by decide) (by simp)).1
 have n3 := (Kd.R_cell (0 : Int) HR.out 3 (by decide) (by simp)).1
 replace n0 : w1.cell? ⟨gn, 0, none⟩ = some (.int .i64 x) := n0
 replace n1 : w1.cell? ⟨gn, 1, none⟩ = some (.int .i64 y) := n1
 replace n2 : w1.cell? ⟨gn, 2, none⟩ = some (.int .i64 u) := n2
 replace n3 : w1.cell? ⟨gn, 3, none⟩ = some (.int .i64 v) := n3
 clear x0 x1 xf0 xf1
 refine start_ (n := 29) (S := fun w' => w'.cell? ⟨gn, 0, none⟩ = some (.int .i64 x) ∧ w'.cell? ⟨gn, 1, none⟩ = some (.int .i64 y) ∧ w'.cell? ⟨gn, 2, none⟩ = some (.int .i64 u) ∧ w'.cell? ⟨gn, 3, none⟩ = some (.int .i64 v)) (ds := []) #[false, false, false, false, false, false, false, false, false, false, false, false, false, false, false, false, false, false, false, false, false, false, false, false, false, false, false, false, false] (by kernel_rfl) rfl rfl ⟨n0, n1, n2, n3⟩ (fun hHeld => ?_); refine with_tabW lsa_add.tab5 lsa_add.bits5 (fun HT_ HW_ => ?_)
 replace L1 := Aside0.mk (show LBk w1.drew g a va vp from blk_drew L1.out)
 replace A1 := Aside0.mk (Kd.R_drew A1.out)
 replace P1 := Aside0.mk (Kd.R_drew P1.out)
 replace HGN := Aside0.mk (blk_drew HGN.out)
 replace HB1 := Aside0.mk (below_drew1 HB1.out)
 have hsz : g < w1.drew.heap.size := blk_lt L1.out
 clear n0 n1 n2 n3 HR
 generalize w1.drew = wd at L1 A1 P1 HGN HB1 hHeld hsz ⊢
 refine py 0 23 HT_ ?_
 refine py 1 24 HT_ ?_
 refine py 2 25 HT_ ?_
 refine py 3 26 HT_ ?_
 refine py 4 27 HT_ ?_
 refine py 7 30 HT_ ?_
 refine py 10 33 HT_ ?_
 refine py 13 36 HT_ ?_
 refine ty 5 28 HT_ HW_ rfl (Or.inl ⟨by rfl, by rintro w' ⟨s0, s1, s2, s3⟩; go_simp; with_reducible rfl⟩) hHeld ?_
 refine ty 6 29 HT_ HW_ rfl (Or.inl ⟨by rfl, by rintro w' ⟨s0, s1, s2, s3⟩; go_simp; with_reducible rfl⟩) hHeld ?_
 refine ty 8 31 HT_ HW_ rfl (Or.inl ⟨by rfl, by rintro w' ⟨s0, s1, s2, s3⟩; go_simp; with_reducible rfl⟩) hHeld ?_
 refine ty 9 32 HT_ HW_ rfl (Or.inl ⟨by rfl, by rintro w' ⟨s0, s1, s2, s3⟩; go_simp; with_reducible rfl⟩) hHeld ?_
 refine ty 11 34 HT_ HW_ rfl (Or.inl ⟨by rfl, by rintro w' ⟨s0, s1, s2, s3⟩; go_simp; with_reducible rfl⟩) hHeld ?_
 refine ty 12 35 HT_ HW_ rfl (Or.inl ⟨by rfl, by rintro w' ⟨s0, s1, s2, s3⟩; go_simp; with_reducible rfl⟩) hHeld ?_
 refine ty 14 37 HT_ HW_ rfl (Or.inl ⟨by rfl, by rintro w' ⟨s0, s1, s2, s3⟩; go_simp; with_reducible rfl⟩) hHeld ?_
 refine ty 15 38 HT_ HW_ rfl (Or.inl ⟨by rfl, by rintro w' ⟨s0, s1, s2, s3⟩; go_simp; with_reducible rfl⟩) hHeld ?_
 refine py 16 39 HT_ ?_
 have hgn : gn ≠ g := fun e => by have h1 := L1.out; have h2 := HGN.out; rw [e] at h2; unfold LBk at h1; rw [h1] at h2; injection h2 with h2; injection h2 with _ h2 _; exact absurd h2 (by decide)
 refine py 17 40 HT_ ?_
 refine py 18 41 HT_ ?_
 have c0 := (blk_cell L1.out 0).trans rfl
 have f0 := blk_frozen L1.out 0
 refine one_ (i := 19) (N := none) #[true, true, true, true, true, true, true, true, true, true, true, true, true, true, true, true, true, true, true, true, false, false, false, false, false, false, false, false, false] rfl rfl (one_of HT_.out (by kernel_rfl)) (by decide) (fun K hK => ?_)
 refine skip_ (w1 := ?_) (by rfl) rfl ?_ ?_
 rotate_left
 ·go_simp
  rfl
 have M0 := blk_put (cs' := #[.int .i64 x, .int .i64 a.s, .int .i64 a.age, .bool a.ov, va, vp]) L1.out 0 (.int .i64 x) rfl
 refine hK.out _ _ ⟨(World.cell?_of_block (Below.heap_setCell _ _ _ _ hgn)).trans hHeld.1, (World.cell?_of_block (Below.heap_setCell _ _ _ _ hgn)).trans hHeld.2.1, (World.cell?_of_block (Below.heap_setCell _ _ _ _ hgn)).trans hHeld.2.2.1, (World.cell?_of_block (Below.heap_setCell _ _ _ _ hgn)).trans hHeld.2.2.2⟩ (fun hHeld => ?_)
 clear hK K c0 f0
 refine py 20 42 HT_ ?_
 refine py 21 43 HT_ ?_
 have c1 := (blk_cell M0 1).trans rfl
 have f1 := blk_frozen M0 1
 refine one_ (i := 22) (N := none) #[true, true, true, true, true, true, true, true, true, true, true, true, true, true, true, true, true, true, true, true, true, true, true, false, false, false, false, false, false] rfl rfl (one_of HT_.out (by kernel_rfl)) (by decide) (fun K hK => ?_)
 refine skip_ (w1 := ?_) (by rfl) rfl ?_ ?_
 rotate_left
 ·go_simp
  rfl
 have M1 := blk_put (cs' := #[.int .i64 x, .int .i64 y, .int .i64 a.age, .bool a.ov, va, vp]) M0 1 (.int .i64 y) rfl
 refine hK.out _ _ ⟨(World.cell?_of_block (Below.heap_setCell _ _ _ _ hgn)).trans hHeld.1, (World.cell?_of_block (Below.heap_setCell _ _ _ _ hgn)).trans hHeld.2.1, (World.cell?_of_block (Below.heap_setCell _ _ _ _ hgn)).trans hHeld.2.2.1, (World.cell?_of_block (Below.heap_setCell _ _ _ _ hgn)).trans hHeld.2.2.2⟩ (fun hHeld => ?_)
 clear hK K c1 f1
 refine py 23 44 HT_ ?_
 refine py 24 45 HT_ ?_
 have c2 := (blk_cell M1 2).trans rfl
 have f2 := blk_frozen M1 2
 refine one_ (i := 25) (N := none) #[true, true, true, true, true, true, true, true, true, true, true, true, true, true, true, true, true, true, true, true, true, true, true, true, true, true, false, false, false] rfl rfl (one_of HT_.out (by kernel_rfl)) (by decide) (fun K hK => ?_)
 refine skip_ (w1 := ?_) (by rfl) rfl ?_ ?_
 rotate_left
 ·go_simp
  rfl
 have M2 := blk_put (cs' := #[.int .i64 x, .int .i64 y, .int .i64 u, .bool a.ov, va, vp]) M1 2 (.int .i64 u) rfl
 refine hK.out _ _ ⟨(World.cell?_of_block (Below.heap_setCell _ _ _ _ hgn)).trans hHeld.1, (World.cell?_of_block (Below.heap_setCell _ _ _ _ hgn)).trans hHeld.2.1, (World.cell?_of_block (Below.heap_setCell _ _ _ _ hgn)).trans hHeld.2.2.1, (World.cell?_of_block (Below.heap_setCell _ _ _ _ hgn)).trans hHeld.2.2.2⟩ (fun hHeld => ?_)
 clear hK K c2 f2
 refine py 26 46 HT_ ?_
 refine py 27 47 HT_ ?_
 have c3 := (blk_cell M2 3).trans rfl
 have f3 := blk_frozen M2 3
 refine one_ (i := 28) (N := none) #[true, true, true, true, true, true, true, true, true, true, true, true, true, true, true, true, true, true, true, true, true, true, true, true, true, true, true, true, true] rfl rfl (one_of HT_.out (by kernel_rfl)) (by decide) (fun K hK => ?_)
 refine skip_ (w1 := ?_) (by rfl) rfl ?_ ?_
 rotate_left
 ·go_simp
  rfl
 have M3 := blk_put (cs' := #[.int .i64 x, .int .i64 y, .int .i64 u, .bool (v == 1), va, vp]) M2 3 (.bool (v == 1)) rfl
 refine hK.out _ _ ⟨(World.cell?_of_block (Below.heap_setCell _ _ _ _ hgn)).trans hHeld.1, (World.cell?_of_block (Below.heap_setCell _ _ _ _ hgn)).trans hHeld.2.1, (World.cell?_of_block (Below.heap_setCell _ _ _ _ hgn)).trans hHeld.2.2.1, (World.cell?_of_block (Below.heap_setCell _ _ _ _ hgn)).trans hHeld.2.2.2⟩ (fun hHeld => ?_)
 clear hK K c3 f3
 refine done_ (done_of HT_.out (by kernel_rfl)) ?_
 clear HT_ HW_ hHeld
 have MM := Aside0.mk M3
 clear M0 M1 M2 M3
 go_wp2_with fail
 go_ret
 have N0 := blk_put (cs' := #[.int .i64 x, .int .i64 a.s, .int .i64 a.age, .bool a.ov, va, vp]) L1.out 0 (.int .i64 x) rfl
 have N1 := blk_put (cs' := #[.int .i64 x, .int .i64 y, .int .i64 a.age, .bool a.ov, va, vp]) N0 1 (.int .i64 y) rfl
 have N2 := blk_put (cs' := #[.int .i64 x, .int .i64 y, .int .i64 u, .bool a.ov, va, vp]) N1 2 (.int .i64 u) rfl
 exact ⟨rfl, va, vp, MM.out, Kd.R_set (Kd.R_set (Kd.R_set (Kd.R_set A1.out L1.out (by decide) _ _) N0 (by decide) _ _) N1 (by decide) _ _) N2 (by decide) _ _, Kd.R_set (Kd.R_set (Kd.R_set (Kd.R_set P1.out L1.out (by decide) _ _) N0 (by decide) _ _) N1 (by decide) _ _) N2 (by decide) _ _, ((((Stay.of_below HB1.out).trans (Stay.set _ _ _)).trans (Stay.set _ _ _)).trans (Stay.set _ _ _)).trans (Stay.set _ _ _), ((((HB1.out.mono (by omega)).setCell (p := ⟨g, 0, none⟩) hz _).setCell (p := ⟨g, 1, none⟩) hz _).setCell (p := ⟨g, 2, none⟩) hz _).setCell (p := ⟨g, 3, none⟩) hz _⟩
theorem add_calls (k z g : Nat) (a : LSt) (va vp : Value) (A : Option Addr) (c : Nat) (r : S52) (w : World) (hz : z ≤ g) (hc : r.f1.length ≤ c) (hC : Kd.C (Kd.int .u8) w A r.f1.length r.f1) (hL : LBk w g a va vp) (hA : Kd.R k43 43 w z (fun _ => True) va a.ad) (hP : Kd.R k56 56 w z (fun _ => True) vp a.pf)
  (b : Bool) (a' : LSt) (h : lsa_add.f k a r = some (b, a')) :
  Calls Try.prog 39 #[.pointer (some ⟨g, 0, none⟩), .agg #[.int .i64 r.f0, .slice A r.f1.length c]] w (AddPost z g w b a') := by
 unfold lsa_add.f at h
 split at h
 ·rename_i e
  obtain ⟨⟨n, ok⟩, hn, h⟩ := Option.bind_eq_some_iff.mp h
  rw [e]
  cases ok with
  | true =>
   simp only [if_true] at h
   split at h
   ·rename_i x y u v
    obtain ⟨rfl, rfl⟩ := Prod.mk.inj (Option.some.inj h)
    exact add_one k z g a va vp A c r.f1 [] w hz hc hC hL hA hP x y u v hn
   ·cases h
  | false =>
   simp only [Bool.false_eq_true, if_false] at h
   obtain ⟨rfl, rfl⟩ := Prod.mk.inj (Option.some.inj h)
   exact add_one_no k z g a va vp A c r.f1 n w hz hc hC hL hA hP hn
 ·rename_i e1
  split at h
  ·rename_i e
   obtain ⟨⟨n, ok⟩, hn, h⟩ := Option.bind_eq_some_iff.mp h
   rw [e]
   cases ok with
   | true =>
    simp only [if_true] at h
    split at h
    ·rename_i x y u
     split at h
     ·rename_i hl
      obtain ⟨rfl, rfl⟩ := Prod.mk.inj (Option.some.inj h)
      exact add_two k z g a va vp A c r.f1 [] w hz hc hC hL hA hP x y u hn hl
     ·cases h
    ·cases h
   | false =>
    simp only [Bool.false_eq_true, if_false] at h
    obtain ⟨rfl, rfl⟩ := Prod.mk.inj (Option.some.inj h)
    exact add_two_no k z g a va vp A c r.f1 n w hz hc hC hL hA hP hn
  ·rename_i e2
   split at h
   ·rename_i e
    obtain ⟨⟨n, ok⟩, hn, h⟩ := Option.bind_eq_some_iff.mp h
    rw [e]
    cases ok with
    | true =>
     simp only [if_true] at h
     split at h
     ·rename_i x y
      split at h
      ·rename_i hl
       obtain ⟨rfl, rfl⟩ := Prod.mk.inj (Option.some.inj h)
       exact add_three k z g a va vp A c r.f1 [] w hz hc hC hL hA hP x y hn hl
      ·cases h
     ·cases h
    | false =>
     simp only [Bool.false_eq_true, if_false] at h
     obtain ⟨rfl, rfl⟩ := Prod.mk.inj (Option.some.inj h)
     exact add_three_no k z g a va vp A c r.f1 n w hz hc hC hL hA hP hn
   ·rename_i e3
    obtain ⟨rfl, rfl⟩ := Prod.mk.inj (Option.some.inj h)
    exact add_other z g a va vp r.f0 A c r.f1 w hz hL hA hP e1 e2 e3
theorem Stay.blk {g b : Nat} {W W' : World} {cs : Array Value} {t : TypeId} (h : Stay g W W') (hb : W.heap[b]? = some (.cells cs t (0, 0))) (hne : b ≠ g) (h1 : t ≠ 43) (h2 : t ≠ 56) : W'.heap[b]? = some (.cells cs t (0, 0)) := by
 refine (h.2 b (blk_lt hb) hne (fun cs' e => ?_) (fun cs' e => ?_)).trans hb
 ·rw [hb] at e; injection e with e; injection e with _ e; exact h1 e
 ·rw [hb] at e; injection e with e; injection e with _ e; exact h2 e
theorem Stay.row {g base : Nat} {W W' : World} {cs : Array Value} {v : Value} {l : List (S52)} (h : Stay g W W') (hg : W.heap[g]? = some (.cells cs 25 (0, 0))) (hR : Kd.R k52 52 W base (fun _ => True) v l) : Kd.R k52 52 W' base (fun _ => True) v l := by
 refine Kd.R_mono (Kd.R_step (Kd.R_bound hR) (fun k hk hlt => ?_)) (fun _ _ => trivial)
 obtain ⟨_, _, _, q, hq, cells, hc⟩ := hk
 have hq2 : q ≠ 25 ∧ q ≠ 43 ∧ q ≠ 56 := (show ∀ q, q ∈ 52 :: k52.E → q ≠ 25 ∧ q ≠ 43 ∧ q ≠ 56 by decide) q hq
 exact (h.blk hc (fun e => by subst e; rw [hg] at hc; injection hc with hc; injection hc with _ hc; exact hq2.1 hc.symm) hq2.2.1 hq2.2.2).trans hc.symm
def LSt.zero : LSt := ⟨0, 0, 0, false, [], []⟩
def lsa_Decode.l0' (k : Nat) : LSt → List (S52) → Option (Bool × LSt)
 | a, [] => some (true, a)
 | a, r :: rs => (lsa_add.f k a r).bind fun p => if p.1 = true then lsa_Decode.l0' k p.2 rs else some (false, a)
abbrev LRes := Option (Int × Int × Int × Bool × (List AdT) × (List PfT) × Int)
def lsaNo (e : Int) : LRes := some (0, 0, 0, false, [], [], e)
def lsa_Decode.f' (k : Nat) (l0 : List Int) : LRes :=
 (fletcher_Check.f k l0).bind fun t => if t = true then ((codec_Decode.f k l0).bind fun p => if p.2 = 0 then ((lsa_Decode.l0' k LSt.zero p.1).bind fun q => if q.1 = true then ((lsa_Encode.f k q.2.o q.2.s q.2.age q.2.ov q.2.ad q.2.pf).bind fun u => if u.2 = 0 then ((bytes_Equal.f u.1 l0).bind fun e => if e = true then some (q.2.o, q.2.s, q.2.age, q.2.ov, q.2.ad, q.2.pf, 0) else lsaNo 4) else lsaNo 4) else lsaNo 4) else lsaNo 4) else lsaNo 5
def LPost (w : World) (r1 : Int) (r2 : Int) (r3 : Int) (r4 : Bool) (r5 : List AdT) (r6 : List PfT) (r7 : Int) (e : Ending) (w' : World) : Prop :=
 ∃ v4_ v5_ : Value, e = .returned (.tuple #[.agg #[.int .i64 r1, .int .i64 r2, .int .i64 r3, .bool r4, v4_, v5_], .int .i64 r7]) ∧ Kd.R k43 43 w' w.heap.size (fun _ => True) v4_ r5 ∧ Kd.R k56 56 w' w.heap.size (fun _ => True) v5_ r6 ∧ Below w.heap.size w w'
set_option maxHeartbeats 8000000 in
set_option maxRecDepth 100000 in
theorem ldec_sum (k : Nat) (A0 : Option Addr) (c0 : Nat) (l0 : List Int) (w : World) (hr0 : Kd.C (Kd.int .u8) w A0 l0.length l0) (hc0 : l0.length ≤ c0) (h : fletcher_Check.f k l0 = some false) :
  Calls Try.prog 19 #[.slice A0 l0.length c0] w (LPost w 0 0 0 false [] [] 5) := by
 have hu := Try.underlying25
 have HH := Aside0.mk h
 have HR0 := Aside0.mk hr0
 have HC0 := Aside0.mk hc0
 clear h hr0 hc0
 go_enter Try.func19, Try.ntmps19
 go_wp2_with (
  first
  | ((with_reducible refine gate_dst (N := 2) rfl ?_); refine bx_ 2 #[.int .i64 0, .int .i64 0, .int .i64 0, .bool false, .slice none 0 0, .slice none 0 0] 25 rfl rfl ?hr ?_; (case hr => go_simp; try rfl); intro b2 hg wa hbox hb; have B2 := Aside0.mk hbox; have HB := Aside0.mk hb; have G2 := Aside0.mk (Nat.le_of_eq hg.symm); clear hbox hb hg)
  | ((with_reducible refine gate_callee (f := 37) rfl ?_); refine goesL_ (some 12) rfl rfl Try.func37 (by kernel_rfl) rfl #[.slice A0 l0.length c0] rfl (by (try simp only [List.map_toArray, List.map_cons, List.map_nil]); first | done | rfl | (simp only [List.length_drop, List.length_take]; rfl)) ?_; refine (fletcher_Check.calls k A0 c0 l0 false _ (Kd.C_below HR0.out HB.out) HC0.out HH.out).mono ?_; rintro e w1 ⟨rfl, hd⟩; refine ⟨_, rfl, ?_⟩; obtain ⟨⟨nq, rfl⟩⟩ := hd; have B2a := Aside0.mk (blk_drewN B2.out nq); have HBa := Aside0.mk (pw_below_drewN HB.out nq); have x0 : (wa.drewN nq).cell? ⟨b2, 0, none⟩ = some (.int .i64 0) := (blk_cell B2a.out 0).trans rfl; have xf0 := blk_frozen B2a.out 0; have x1 : (wa.drewN nq).cell? ⟨b2, 1, none⟩ = some (.int .i64 0) := (blk_cell B2a.out 1).trans rfl; have xf1 := blk_frozen B2a.out 1; have x2 : (wa.drewN nq).cell? ⟨b2, 2, none⟩ = some (.int .i64 0) := (blk_cell B2a.out 2).trans rfl; have xf2 := blk_frozen B2a.out 2; have x3 : (wa.drewN nq).cell? ⟨b2, 3, none⟩ = some (.bool false) := (blk_cell B2a.out 3).trans rfl; have xf3 := blk_frozen B2a.out 3; have x4 : (wa.drewN nq).cell? ⟨b2, 4, none⟩ = some (.slice none 0 0) := (blk_cell B2a.out 4).trans rfl; have xf4 := blk_frozen B2a.out 4; have x5 : (wa.drewN nq).cell? ⟨b2, 5, none⟩ = some (.slice none 0 0) := (blk_cell B2a.out 5).trans rfl; have xf5 := blk_frozen B2a.out 5))
 refine bodyPost_ret (results_ct rfl _ _ b2 25 #[.int .i64 0, .int .i64 0, .int .i64 0, .bool false, .slice none 0 0, .slice none 0 0] (0, 0) _ rfl (blk_put (cs' := #[.int .i64 0, .int .i64 0, .int .i64 0, .bool false, .slice none 0 0, .slice none 0 0]) (blk_put (cs' := #[.int .i64 0, .int .i64 0, .int .i64 0, .bool false, .slice none 0 0, .slice none 0 0]) (blk_put (cs' := #[.int .i64 0, .int .i64 0, .int .i64 0, .bool false, .slice none 0 0, .slice none 0 0]) (blk_put (cs' := #[.int .i64 0, .int .i64 0, .int .i64 0, .bool false, .slice none 0 0, .slice none 0 0]) (blk_put (cs' := #[.int .i64 0, .int .i64 0, .int .i64 0, .bool false, .slice none 0 0, .slice none 0 0]) (blk_put (cs' := #[.int .i64 0, .int .i64 0, .int .i64 0, .bool false, .slice none 0 0, .slice none 0 0]) B2a.out 0 (.int .i64 0) rfl) 1 (.int .i64 0) rfl) 2 (.int .i64 0) rfl) 3 (.bool false) rfl) 4 (.slice none 0 0) rfl) 5 (.slice none 0 0) rfl) Try.underlying25 rfl (by kernel_rfl)) rfl ?_
 exact ⟨_, _, rfl, Kd.R_nil _ _ _ _ _, Kd.R_nil _ _ _ _ _, (below_set (below_set (below_set (below_set (below_set (below_set HBa.out G2.out (j := 0) (v := .int .i64 0)) G2.out (j := 1) (v := .int .i64 0)) G2.out (j := 2) (v := .int .i64 0)) G2.out (j := 3) (v := .bool false)) G2.out (j := 4) (v := .slice none 0 0)) G2.out (j := 5) (v := .slice none 0 0))⟩
set_option maxHeartbeats 8000000 in
set_option maxRecDepth 100000 in
theorem ldec_form (k : Nat) (A0 : Option Addr) (c0 : Nat) (l0 : List Int) (w : World) (hr0 : Kd.C (Kd.int .u8) w A0 l0.length l0) (hc0 : l0.length ≤ c0) (h : fletcher_Check.f k l0 = some true) (l : List (S52)) (e1 : Int) (hd : codec_Decode.f k l0 = some (l, e1)) (he : e1 ≠ 0) :
  Calls Try.prog 19 #[.slice A0 l0.length c0] w (LPost w 0 0 0 false [] [] 4) := by
 have hu := Try.underlying25
 have hu2 := Try.underlying52
 have HH := Aside0.mk h
 have HD := Aside0.mk hd
 have HR0 := Aside0.mk hr0
 have HC0 := Aside0.mk hc0
 clear h hr0 hc0 hd
 have qe : (e1 == 0) = false := by simpa using he
 have qe2 : (e1 != 0) = true := by simpa using he
 clear he
 go_enter Try.func19, Try.ntmps19
 go_wp2_with (
  first
  | ((with_reducible refine gate_dst (N := 2) rfl ?_); refine bx_ 2 #[.int .i64 0, .int .i64 0, .int .i64 0, .bool false, .slice none 0 0, .slice none 0 0] 25 rfl rfl ?hr ?_; (case hr => go_simp; try rfl); intro b2 hg wa hbox hb; have B2 := Aside0.mk hbox; have HB := Aside0.mk hb; have G2 := Aside0.mk (Nat.le_of_eq hg.symm); clear hbox hb hg)
  | ((with_reducible refine gate_callee (f := 37) rfl ?_); refine goesL_ (some 12) rfl rfl Try.func37 (by kernel_rfl) rfl #[.slice A0 l0.length c0] rfl (by (try simp only [List.map_toArray, List.map_cons, List.map_nil]); first | done | rfl | (simp only [List.length_drop, List.length_take]; rfl)) ?_; refine (fletcher_Check.calls k A0 c0 l0 true _ (Kd.C_below HR0.out HB.out) HC0.out HH.out).mono ?_; rintro e w1 ⟨rfl, hd⟩; refine ⟨_, rfl, ?_⟩; obtain ⟨⟨nq, rfl⟩⟩ := hd; have B2a := Aside0.mk (blk_drewN B2.out nq); have HBa := Aside0.mk (pw_below_drewN HB.out nq))
  | ((with_reducible refine gate_callee (f := 38) rfl ?_); refine goesL_ (some 17) rfl rfl Try.func38 (by kernel_rfl) rfl #[.slice A0 l0.length c0] rfl (by (try simp only [List.map_toArray, List.map_cons, List.map_nil]); first | done | rfl | (simp only [List.length_drop, List.length_take]; rfl)) ?_; refine (codec_Decode.calls k A0 c0 l0 l e1 _ (Kd.C_below HR0.out HBa.out) HC0.out HD.out).mono ?_; rintro e w1 ⟨v1, rfl, hR, hb1⟩; refine ⟨_, rfl, ?_⟩; obtain ⟨A1, c1, rfl⟩ := Kd.R_slice hR; have HR1 := Aside0.mk (Kd.R_lower hR (below_size HBa.out)); have B2b := Aside0.mk (blk_below B2a.out hb1); have HBb := Aside0.mk (below_step HBa.out hb1); clear hR hb1; obtain ⟨x0, x1, x2, x3, x4, x5, xf0, xf1, xf2, xf3, xf4, xf5⟩ := c6_ B2b)
  )
 refine bodyPost_ret (results_ct rfl _ _ b2 25 #[.int .i64 0, .int .i64 0, .int .i64 0, .bool false, .slice none 0 0, .slice none 0 0] (0, 0) _ rfl (blk_put (cs' := #[.int .i64 0, .int .i64 0, .int .i64 0, .bool false, .slice none 0 0, .slice none 0 0]) (blk_put (cs' := #[.int .i64 0, .int .i64 0, .int .i64 0, .bool false, .slice none 0 0, .slice none 0 0]) (blk_put (cs' := #[.int .i64 0, .int .i64 0, .int .i64 0, .bool false, .slice none 0 0, .slice none 0 0]) (blk_put (cs' := #[.int .i64 0, .int .i64 0, .int .i64 0, .bool false, .slice none 0 0, .slice none 0 0]) (blk_put (cs' := #[.int .i64 0, .int .i64 0, .int .i64 0, .bool false, .slice none 0 0, .slice none 0 0]) (blk_put (cs' := #[.int .i64 0, .int .i64 0, .int .i64 0, .bool false, .slice none 0 0, .slice none 0 0]) B2b.out 0 (.int .i64 0) rfl) 1 (.int .i64 0) rfl) 2 (.int .i64 0) rfl) 3 (.bool false) rfl) 4 (.slice none 0 0) rfl) 5 (.slice none 0 0) rfl) Try.underlying25 rfl (by kernel_rfl)) rfl ?_
 exact ⟨_, _, rfl, Kd.R_nil _ _ _ _ _, Kd.R_nil _ _ _ _ _, (below_set (below_set (below_set (below_set (below_set (below_set HBb.out G2.out (j := 0) (v := .int .i64 0)) G2.out (j := 1) (v := .int .i64 0)) G2.out (j := 2) (v := .int .i64 0)) G2.out (j := 3) (v := .bool false)) G2.out (j := 4) (v := .slice none 0 0)) G2.out (j := 5) (v := .slice none 0 0))⟩
set_option maxHeartbeats 8000000 in
set_option maxRecDepth 100000 in
theorem ldec_ok (k : Nat) (A0 : Option Addr) (c0 : Nat) (l0 : List Int) (w : World) (hr0 : Kd.C (Kd.int .u8) w A0 l0.length l0) (hc0 : l0.length ≤ c0) (h : fletcher_Check.f k l0 = some true) (l : List (S52)) (e1 : Int) (hd : codec_Decode.f k l0 = some (l, e1)) (he : e1 = 0) (res : LRes) (r1 : Int) (r2 : Int) (r3 : Int) (r4 : Bool) (r5 : List AdT) (r6 : List PfT) (r7 : Int) (hq : ((lsa_Decode.l0' k LSt.zero l).bind fun q => if q.1 = true then ((lsa_Encode.f k q.2.o q.2.s q.2.age q.2.ov q.2.ad q.2.pf).bind fun u => if u.2 = 0 then ((bytes_Equal.f u.1 l0).bind fun e => if e = true then some (q.2.o, q.2.s, q.2.age, q.2.ov, q.2.ad, q.2.pf, 0) else lsaNo 4) else lsaNo 4) else lsaNo 4) = some (r1, r2, r3, r4, r5, r6, r7)) :
  Calls Try.prog 19 #[.slice A0 l0.length c0] w (LPost w r1 r2 r3 r4 r5 r6 r7) := by
 have hu := Try.underlying25
 have hu2 := Try.underlying52
 have HH := Aside0.mk h
 have HD := Aside0.mk hd
 have HR0 := Aside0.mk hr0
 have HC0 := Aside0.mk hc0
 clear h hr0 hc0 hd
 subst he
 obtain ⟨⟨ok, q⟩, hq0, hq2⟩ := Option.bind_eq_some_iff.mp hq
 have HQ0 := Aside0.mk hq0
 have HQ := Aside0.mk hq2
 clear hq hq0 hq2
 go_enter Try.func19, Try.ntmps19
 go_wp2_with (
  first
  | ((with_reducible refine gate_dst (N := 2) rfl ?_); refine bx_ 2 #[.int .i64 0, .int .i64 0, .int .i64 0, .bool false, .slice none 0 0, .slice none 0 0] 25 rfl rfl ?hr ?_; (case hr => go_simp; try rfl); intro b2 hg wa hbox hb; have B2 := Aside0.mk hbox; have HB := Aside0.mk hb; have G2 := Aside0.mk (Nat.le_of_eq hg.symm); clear hbox hb hg)
  | ((with_reducible refine gate_callee (f := 37) rfl ?_); refine goesL_ (some 12) rfl rfl Try.func37 (by kernel_rfl) rfl #[.slice A0 l0.length c0] rfl (by (try simp only [List.map_toArray, List.map_cons, List.map_nil]); first | done | rfl | (simp only [List.length_drop, List.length_take]; rfl)) ?_; refine (fletcher_Check.calls k A0 c0 l0 true _ (Kd.C_below HR0.out HB.out) HC0.out HH.out).mono ?_; rintro e w1 ⟨rfl, hd⟩; refine ⟨_, rfl, ?_⟩; obtain ⟨⟨nq, rfl⟩⟩ := hd; have B2a := Aside0.mk (blk_drewN B2.out nq); have HBa := Aside0.mk (pw_below_drewN HB.out nq))
  | ((with_reducible refine gate_callee (f := 38) rfl ?_); refine goesL_ (some 17) rfl rfl Try.func38 (by kernel_rfl) rfl #[.slice A0 l0.length c0] rfl (by (try simp only [List.map_toArray, List.map_cons, List.map_nil]); first | done | rfl | (simp only [List.length_drop, List.length_take]; rfl)) ?_; refine (codec_Decode.calls k A0 c0 l0 l 0 _ (Kd.C_below HR0.out HBa.out) HC0.out HD.out).mono ?_; rintro e w1 ⟨v1, rfl, hR, hb1⟩; refine ⟨_, rfl, ?_⟩; obtain ⟨A1, c1, rfl⟩ := Kd.R_slice hR; have HR1 := Aside0.mk (Kd.R_lower hR (below_size HBa.out)); have B2b := Aside0.mk (blk_below B2a.out hb1); have HBb := Aside0.mk (below_step HBa.out hb1); clear hR hb1; obtain ⟨x0, x1, x2, x3, x4, x5, xf0, xf1, xf2, xf3, xf4, xf5⟩ := c6_ B2b)
  | ((with_reducible refine gate_dst (N := 6) rfl ?_); refine bx_ 6 #[.int .i64 0, .int .i64 0, .int .i64 0, .bool false, .slice none 0 0, .slice none 0 0] 25 rfl rfl ?hr ?_; (case hr => go_simp; try rfl); intro b6 hg wc hbox hb; have B2c := Aside0.mk (blk_below B2b.out hb); have B6 := Aside0.mk hbox; have HBc := Aside0.mk (below_step HBb.out hb); have G6 := Aside0.mk (show w.heap.size ≤ b6 by rw [hg]; exact HBb.out.size); have HR2 := Aside0.mk (Kd.R_below HR1.out hb); have N26 : b2 ≠ b6 := (by rw [hg]; exact Nat.ne_of_lt (blk_lt B2b.out)); clear hbox hb hg)
  )
 go_loopw [25] (fun v25 wr => ∃ (x : Int) (a : LSt) (va vp : Value), v25 = .int .i64 x ∧ Aside0 (0 ≤ x ∧ x ≤ l.length) ∧ Aside0 (lsa_Decode.l0' k a (l.drop x.toNat) = some (ok, q)) ∧ Aside0 (LBk wr b6 a va vp) ∧ Aside0 (Kd.R k43 43 wr w.heap.size (fun _ => True) va a.ad) ∧ Aside0 (Kd.R k56 56 wr w.heap.size (fun _ => True) vp a.pf) ∧ Aside0 (Kd.R k52 52 wr w.heap.size (fun _ => True) (.slice A1 l.length c1) l) ∧ Aside0 (wr.heap[b2]? = some (.cells #[.int .i64 0, .int .i64 0, .int .i64 0, .bool false, .slice none 0 0, .slice none 0 0] 25 (0, 0))) ∧ Aside0 (Below w.heap.size w wr)) (fun v25 _ => ((l.length : Int) - intOf v25).toNat)
 case atStart => exact ⟨0, LSt.zero, _, _, rfl, ⟨by omega, by omega⟩, ⟨HQ0.out⟩, ⟨B6.out⟩, ⟨Kd.R_nil _ _ _ _ _⟩, ⟨Kd.R_nil _ _ _ _ _⟩, HR2, B2c, HBc⟩
 case round =>
  obtain ⟨x, a, va, vp, rfl, hi, HS, L, RA, RP, RL, B2d, HBd⟩ := hrel
  have xx0 := hi.out.1
  have xx1 := hi.out.2
  by_cases cz : x < (l.length : Int)
  ·have cn : x.toNat < l.length := by omega
   have rl := (Kd.R_reads' RL.out).2.2
   have hmx : l.length ≤ 9223372036854775807 := rl.2.1
   obtain ⟨ad, A9, c9, e9, y0, y1, hl9, hC9⟩ := at_T52 rl x xx0 cz
   subst e9
   have hs := HS.out
   have hdr : l.drop x.toNat = rd_T52 l x :: l.drop (x + 1).toNat := by
    rw [List.drop_eq_getElem_cons cn]
    congr 1
    ·simp [rd_T52, List.getD_eq_getElem?_getD, List.getElem?_eq_getElem cn]
    ·congr 1; omega
   rw [hdr] at hs
   generalize rd_T52 l x = r at y0 y1 hl9 hC9 hs
   obtain ⟨⟨b, a'⟩, hadd, hs⟩ := Option.bind_eq_some_iff.mp hs
   have HADD := Aside0.mk hadd
   have HC9 := Aside0.mk hC9
   have Hc9 := Aside0.mk hl9
   replace hs : (if b = true then lsa_Decode.l0' k a' (l.drop (x + 1).toNat) else some (false, a)) = some (ok, q) := hs
   have HS2 := Aside0.mk hs
   clear hs hadd hC9 hl9 hdr HS rl cn
   cases b with
   | true =>
    go_wp2_with (
     first
     | ((with_reducible refine gate_dst (N := 8) rfl ?_); refine bx_ 8 #[.int .i64 0, .slice none 0 0] 52 rfl rfl ?hr ?_; (case hr => go_simp; try rfl); intro b8 hg wb hbox hb; have B8 := Aside0.mk hbox; have N68 : b6 ≠ b8 := (by rw [hg]; exact Nat.ne_of_lt (blk_lt L.out)); have N28 : b2 ≠ b8 := (by rw [hg]; exact Nat.ne_of_lt (blk_lt B2d.out)); have G8 := Aside0.mk (show w.heap.size ≤ b8 by rw [hg]; exact HBd.out.size); obtain ⟨p0, p1, pf0, pf1⟩ := c2_ B8; have B9 := Aside0.mk (blk_put (cs' := #[.int .i64 r.f0, .slice none 0 0]) B8.out 0 (.int .i64 r.f0) rfl); have B2e := Aside0.mk (blk_far (p := ⟨b8, 1, none⟩) (blk_far (p := ⟨b8, 0, none⟩) (blk_below B2d.out hb) N28 (.int .i64 r.f0)) N28 (.slice A9 r.f1.length c9)); have HBe := Aside0.mk (below_set (below_set (below_step HBd.out hb) G8.out (j := 0) (v := .int .i64 r.f0)) G8.out (j := 1) (v := .slice A9 r.f1.length c9)); have L' := Aside0.mk (show LBk ((wb.setCell ⟨b8, 0, none⟩ (.int .i64 r.f0)).setCell ⟨b8, 1, none⟩ (.slice A9 r.f1.length c9)) b6 a va vp from (blk_far (p := ⟨b8, 1, none⟩) (blk_far (p := ⟨b8, 0, none⟩) (blk_below L.out hb) N68 (.int .i64 r.f0)) N68 (.slice A9 r.f1.length c9))); have RA' := Aside0.mk (Kd.R_set (Kd.R_set (Kd.R_below RA.out hb) B8.out (by decide) 0 (.int .i64 r.f0)) B9.out (by decide) 1 (.slice A9 r.f1.length c9)); have RP' := Aside0.mk (Kd.R_set (Kd.R_set (Kd.R_below RP.out hb) B8.out (by decide) 0 (.int .i64 r.f0)) B9.out (by decide) 1 (.slice A9 r.f1.length c9)); have RL' := Aside0.mk (Kd.R_mono (Kd.R_far (p := ⟨b8, 1, none⟩) (Kd.R_far (p := ⟨b8, 0, none⟩) (Kd.R_below (Kd.R_mono (Kd.R_bound RL.out) (fun k_ hk => show k_ ≠ b8 by rw [hg]; exact Nat.ne_of_lt hk.2.2.1)) hb) (fun _ hk => hk) (.int .i64 r.f0)) (fun _ hk => hk) (.slice A9 r.f1.length c9)) (fun _ _ => trivial) (ok' := fun _ => True)); have HC9' := Aside0.mk (Kd.C_below HC9.out ((hb.setCell (p := ⟨b8, 0, none⟩) (Nat.le_of_eq hg.symm) (.int .i64 r.f0)).setCell (p := ⟨b8, 1, none⟩) (Nat.le_of_eq hg.symm) (.slice A9 r.f1.length c9))); clear hbox hb hg)
     | ((with_reducible refine gate_callee (f := 39) rfl ?_); refine goesL_ (some 30) rfl rfl Try.func39 (by kernel_rfl) rfl #[.pointer (some ⟨b6, 0, none⟩), .agg #[.int .i64 r.f0, .slice A9 r.f1.length c9]] rfl (by (try simp only [List.map_toArray, List.map_cons, List.map_nil]); first | done | rfl | (simp only [List.length_drop, List.length_take]; rfl)) ?_; refine (add_calls k w.heap.size b6 a va vp A9 c9 r _ G6.out Hc9.out HC9'.out L'.out RA'.out RP'.out true a' HADD.out).mono ?_; rintro e w5 ⟨rfl, va5, vp5, hL5, hA5, hP5, hS5, hB5⟩; refine ⟨_, rfl, ?_⟩; have L5 := Aside0.mk hL5; have RA5 := Aside0.mk hA5; have RP5 := Aside0.mk hP5; have RL5 := Aside0.mk (hS5.row L'.out RL'.out); have B25 := Aside0.mk (hS5.blk B2e.out N26 (by decide) (by decide)); have HB5 := Aside0.mk (HBe.out.trans hB5); clear hL5 hA5 hP5 hS5 hB5)
     )
    go_roundw
    case rel => exact ⟨x + 1, a', va5, vp5, by rfl, ⟨by omega, by omega⟩, ⟨HS2.out⟩, L5, RA5, RP5, RL5, B25, HB5⟩
    case measure => simp [intOf]; omega
   | false =>
    obtain ⟨rfl, rfl⟩ := Prod.mk.inj (Option.some.inj (show some (false, a) = some (ok, q) from HS2.out))
    have hz := HQ.out
    simp only [Bool.false_eq_true, if_false, lsaNo, Option.some.injEq, Prod.mk.injEq] at hz
    obtain ⟨rfl, rfl, rfl, rfl, rfl, rfl, rfl⟩ := hz
    clear HS2 HQ
    go_wp2_with (
     first
     | ((with_reducible refine gate_dst (N := 8) rfl ?_); refine bx_ 8 #[.int .i64 0, .slice none 0 0] 52 rfl rfl ?hr ?_; (case hr => go_simp; try rfl); intro b8 hg wb hbox hb; have B8 := Aside0.mk hbox; have N68 : b6 ≠ b8 := (by rw [hg]; exact Nat.ne_of_lt (blk_lt L.out)); have N28 : b2 ≠ b8 := (by rw [hg]; exact Nat.ne_of_lt (blk_lt B2d.out)); have G8 := Aside0.mk (show w.heap.size ≤ b8 by rw [hg]; exact HBd.out.size); obtain ⟨p0, p1, pf0, pf1⟩ := c2_ B8; have B9 := Aside0.mk (blk_put (cs' := #[.int .i64 r.f0, .slice none 0 0]) B8.out 0 (.int .i64 r.f0) rfl); have B2e := Aside0.mk (blk_far (p := ⟨b8, 1, none⟩) (blk_far (p := ⟨b8, 0, none⟩) (blk_below B2d.out hb) N28 (.int .i64 r.f0)) N28 (.slice A9 r.f1.length c9)); have HBe := Aside0.mk (below_set (below_set (below_step HBd.out hb) G8.out (j := 0) (v := .int .i64 r.f0)) G8.out (j := 1) (v := .slice A9 r.f1.length c9)); have L' := Aside0.mk (show LBk ((wb.setCell ⟨b8, 0, none⟩ (.int .i64 r.f0)).setCell ⟨b8, 1, none⟩ (.slice A9 r.f1.length c9)) b6 a va vp from (blk_far (p := ⟨b8, 1, none⟩) (blk_far (p := ⟨b8, 0, none⟩) (blk_below L.out hb) N68 (.int .i64 r.f0)) N68 (.slice A9 r.f1.length c9))); have RA' := Aside0.mk (Kd.R_set (Kd.R_set (Kd.R_below RA.out hb) B8.out (by decide) 0 (.int .i64 r.f0)) B9.out (by decide) 1 (.slice A9 r.f1.length c9)); have RP' := Aside0.mk (Kd.R_set (Kd.R_set (Kd.R_below RP.out hb) B8.out (by decide) 0 (.int .i64 r.f0)) B9.out (by decide) 1 (.slice A9 r.f1.length c9)); have RL' := Aside0.mk (Kd.R_mono (Kd.R_far (p := ⟨b8, 1, none⟩) (Kd.R_far (p := ⟨b8, 0, none⟩) (Kd.R_below (Kd.R_mono (Kd.R_bound RL.out) (fun k_ hk => show k_ ≠ b8 by rw [hg]; exact Nat.ne_of_lt hk.2.2.1)) hb) (fun _ hk => hk) (.int .i64 r.f0)) (fun _ hk => hk) (.slice A9 r.f1.length c9)) (fun _ _ => trivial) (ok' := fun _ => True)); have HC9' := Aside0.mk (Kd.C_below HC9.out ((hb.setCell (p := ⟨b8, 0, none⟩) (Nat.le_of_eq hg.symm) (.int .i64 r.f0)).setCell (p := ⟨b8, 1, none⟩) (Nat.le_of_eq hg.symm) (.slice A9 r.f1.length c9))); clear hbox hb hg)
     | ((with_reducible refine gate_callee (f := 39) rfl ?_); refine goesL_ (some 30) rfl rfl Try.func39 (by kernel_rfl) rfl #[.pointer (some ⟨b6, 0, none⟩), .agg #[.int .i64 r.f0, .slice A9 r.f1.length c9]] rfl (by (try simp only [List.map_toArray, List.map_cons, List.map_nil]); first | done | rfl | (simp only [List.length_drop, List.length_take]; rfl)) ?_; refine (add_calls k w.heap.size b6 a va vp A9 c9 r _ G6.out Hc9.out HC9'.out L'.out RA'.out RP'.out false a' HADD.out).mono ?_; rintro e w5 ⟨rfl, va5, vp5, hL5, hA5, hP5, hS5, hB5⟩; refine ⟨_, rfl, ?_⟩; have L5 := Aside0.mk hL5; have RA5 := Aside0.mk hA5; have RP5 := Aside0.mk hP5; have RL5 := Aside0.mk (hS5.row L'.out RL'.out); have B25 := Aside0.mk (hS5.blk B2e.out N26 (by decide) (by decide)); have HB5 := Aside0.mk (HBe.out.trans hB5); clear hL5 hA5 hP5 hS5 hB5; obtain ⟨y0, y1, y2, y3, y4, y5, yf0, yf1, yf2, yf3, yf4, yf5⟩ := c6_ B25)
     )
    refine bodyPost_ret (results_ct rfl _ _ b2 25 #[.int .i64 0, .int .i64 0, .int .i64 0, .bool false, .slice none 0 0, .slice none 0 0] (0, 0) _ rfl (blk_put (cs' := #[.int .i64 0, .int .i64 0, .int .i64 0, .bool false, .slice none 0 0, .slice none 0 0]) (blk_put (cs' := #[.int .i64 0, .int .i64 0, .int .i64 0, .bool false, .slice none 0 0, .slice none 0 0]) (blk_put (cs' := #[.int .i64 0, .int .i64 0, .int .i64 0, .bool false, .slice none 0 0, .slice none 0 0]) (blk_put (cs' := #[.int .i64 0, .int .i64 0, .int .i64 0, .bool false, .slice none 0 0, .slice none 0 0]) (blk_put (cs' := #[.int .i64 0, .int .i64 0, .int .i64 0, .bool false, .slice none 0 0, .slice none 0 0]) (blk_put (cs' := #[.int .i64 0, .int .i64 0, .int .i64 0, .bool false, .slice none 0 0, .slice none 0 0]) B25.out 0 (.int .i64 0) rfl) 1 (.int .i64 0) rfl) 2 (.int .i64 0) rfl) 3 (.bool false) rfl) 4 (.slice none 0 0) rfl) 5 (.slice none 0 0) rfl) Try.underlying25 rfl (by kernel_rfl)) rfl ?_
    exact ⟨_, _, rfl, Kd.R_nil _ _ _ _ _, Kd.R_nil _ _ _ _ _, (below_set (below_set (below_set (below_set (below_set (below_set HB5.out G2.out (j := 0) (v := .int .i64 0)) G2.out (j := 1) (v := .int .i64 0)) G2.out (j := 2) (v := .int .i64 0)) G2.out (j := 3) (v := .bool false)) G2.out (j := 4) (v := .slice none 0 0)) G2.out (j := 5) (v := .slice none 0 0))⟩
  ·have hx : x.toNat = l.length := by omega
   have hs := HS.out
   rw [hx, List.drop_length] at hs
   obtain ⟨rfl, rfl⟩ := Prod.mk.inj (Option.some.inj (show some (true, a) = some (ok, q) from hs))
   have hz := HQ.out
   simp only [if_true] at hz
   obtain ⟨⟨u, ue⟩, henc, hz⟩ := Option.bind_eq_some_iff.mp hz
   have HENC := Aside0.mk henc
   have HZ := Aside0.mk hz
   clear hz henc hs HS HQ hx
   obtain ⟨Aa, ca, rfl⟩ := Kd.R_slice RA.out
   obtain ⟨Ap, cp, rfl⟩ := Kd.R_slice RP.out
   have CA := Aside0.mk (Kd.R_reads' RA.out).2
   have CP := Aside0.mk (Kd.R_reads' RP.out).2
   have p0 : wr.cell? ⟨b6, 0, none⟩ = some (.int .i64 a.o) := (blk_cell L.out 0).trans rfl; have pf0 := blk_frozen L.out 0; have p1 : wr.cell? ⟨b6, 1, none⟩ = some (.int .i64 a.s) := (blk_cell L.out 1).trans rfl; have pf1 := blk_frozen L.out 1; have p2 : wr.cell? ⟨b6, 2, none⟩ = some (.int .i64 a.age) := (blk_cell L.out 2).trans rfl; have pf2 := blk_frozen L.out 2; have p3 : wr.cell? ⟨b6, 3, none⟩ = some (.bool a.ov) := (blk_cell L.out 3).trans rfl; have pf3 := blk_frozen L.out 3; have p4 : wr.cell? ⟨b6, 4, none⟩ = some (.slice Aa a.ad.length ca) := (blk_cell L.out 4).trans rfl; have pf4 := blk_frozen L.out 4; have p5 : wr.cell? ⟨b6, 5, none⟩ = some (.slice Ap a.pf.length cp) := (blk_cell L.out 5).trans rfl; have pf5 := blk_frozen L.out 5
   by_cases hue : ue = 0
   ·subst hue
    have hz := HZ.out
    simp only [if_true] at hz
    obtain ⟨eq, heq, hz⟩ := Option.bind_eq_some_iff.mp hz
    have HEQ := Aside0.mk heq
    clear heq HZ
    cases eq with
    | true =>
     simp only [if_true, Option.some.injEq, Prod.mk.injEq] at hz
     obtain ⟨rfl, rfl, rfl, rfl, rfl, rfl, rfl⟩ := hz
     go_wp2_with (
      first
      | ((with_reducible refine gate_callee (f := 12) rfl ?_); refine goesL_ (some 36) rfl rfl Try.func12 (by kernel_rfl) rfl #[.agg #[.int .i64 a.o, .int .i64 a.s, .int .i64 a.age, .bool a.ov, .slice Aa a.ad.length ca, .slice Ap a.pf.length cp]] rfl (by (try simp only [List.map_toArray, List.map_cons, List.map_nil]); first | done | rfl | (simp only [List.length_drop, List.length_take]; rfl)) ?_; refine (lsa_Encode.calls k a.o a.s a.age a.ov Aa ca a.ad Ap cp a.pf u 0 _ CA.out.2 CA.out.1 CP.out.2 CP.out.1 HENC.out).mono ?_; rintro e w6 ⟨v6, rfl, hR6, hb6⟩; refine ⟨_, rfl, ?_⟩; obtain ⟨A6, c6, rfl⟩ := Kd.R_slice hR6; have R6 := Aside0.mk hR6; have B26 := Aside0.mk (blk_below B2d.out hb6); have L6 := Aside0.mk (show LBk w6 b6 a (.slice Aa a.ad.length ca) (.slice Ap a.pf.length cp) from blk_below L.out hb6); have RA6 := Aside0.mk (Kd.R_below RA.out hb6); have RP6 := Aside0.mk (Kd.R_below RP.out hb6); have HB6 := Aside0.mk (below_step HBd.out hb6); clear hR6 hb6; obtain ⟨y0, y1, y2, y3, y4, y5, yf0, yf1, yf2, yf3, yf4, yf5⟩ := c6_ B26; obtain ⟨q0, q1, q2, q3, q4, q5, qf0, qf1, qf2, qf3, qf4, qf5⟩ := c6_ L6)
      )
     refine (bytes_Equal.calls A6 c6 u A0 c0 l0 true w6 (Kd.R_reads' R6.out).2.2 (Kd.R_reads' R6.out).2.1 (Kd.C_below HR0.out HB6.out) HC0.out HEQ.out).mono ?_
     rintro e w7 ⟨rfl, hd⟩
     obtain ⟨⟨m7, rfl⟩⟩ := hd
     dsimp only
     have B27 := Aside0.mk (blk_drewN B26.out m7)
     have L7 := Aside0.mk (show LBk (w6.drewN m7) b6 a (.slice Aa a.ad.length ca) (.slice Ap a.pf.length cp) from blk_drewN L6.out m7)
     have RA7 := Aside0.mk (Kd.R_drewN RA6.out m7)
     have RP7 := Aside0.mk (Kd.R_drewN RP6.out m7)
     have HB7 := Aside0.mk (pw_below_drewN HB6.out m7)
     clear B26 L6 RA6 RP6 HB6 R6
     go_wp2_with fail
     have N0 := blk_put (cs' := #[.int .i64 a.o, .int .i64 0, .int .i64 0, .bool false, .slice none 0 0, .slice none 0 0]) B27.out 0 (.int .i64 a.o) rfl
     have N1 := blk_put (cs' := #[.int .i64 a.o, .int .i64 a.s, .int .i64 0, .bool false, .slice none 0 0, .slice none 0 0]) N0 1 (.int .i64 a.s) rfl
     have N2 := blk_put (cs' := #[.int .i64 a.o, .int .i64 a.s, .int .i64 a.age, .bool false, .slice none 0 0, .slice none 0 0]) N1 2 (.int .i64 a.age) rfl
     have N3 := blk_put (cs' := #[.int .i64 a.o, .int .i64 a.s, .int .i64 a.age, .bool a.ov, .slice none 0 0, .slice none 0 0]) N2 3 (.bool a.ov) rfl
     have N4 := blk_put (cs' := #[.int .i64 a.o, .int .i64 a.s, .int .i64 a.age, .bool a.ov, .slice Aa a.ad.length ca, .slice none 0 0]) N3 4 (.slice Aa a.ad.length ca) rfl
     have N5 := blk_put (cs' := #[.int .i64 a.o, .int .i64 a.s, .int .i64 a.age, .bool a.ov, .slice Aa a.ad.length ca, .slice Ap a.pf.length cp]) N4 5 (.slice Ap a.pf.length cp) rfl
     refine bodyPost_ret (results_ct rfl _ _ b2 25 #[.int .i64 a.o, .int .i64 a.s, .int .i64 a.age, .bool a.ov, .slice Aa a.ad.length ca, .slice Ap a.pf.length cp] (0, 0) _ rfl N5 Try.underlying25 rfl (by kernel_rfl)) rfl ?_
     exact ⟨_, _, rfl, (Kd.R_set (Kd.R_set (Kd.R_set (Kd.R_set (Kd.R_set (Kd.R_set RA7.out B27.out (by decide) _ _) N0 (by decide) _ _) N1 (by decide) _ _) N2 (by decide) _ _) N3 (by decide) _ _) N4 (by decide) _ _), (Kd.R_set (Kd.R_set (Kd.R_set (Kd.R_set (Kd.R_set (Kd.R_set RP7.out B27.out (by decide) _ _) N0 (by decide) _ _) N1 (by decide) _ _) N2 (by decide) _ _) N3 (by decide) _ _) N4 (by decide) _ _), (below_set (below_set (below_set (below_set (below_set (below_set HB7.out G2.out (j := 0) (v := .int .i64 a.o)) G2.out (j := 1) (v := .int .i64 a.s)) G2.out (j := 2) (v := .int .i64 a.age)) G2.out (j := 3) (v := .bool a.ov)) G2.out (j := 4) (v := .slice Aa a.ad.length ca)) G2.out (j := 5) (v := .slice Ap a.pf.length cp))⟩
    | false =>
     simp only [Bool.false_eq_true, if_false, lsaNo, Option.some.injEq, Prod.mk.injEq] at hz
     obtain ⟨rfl, rfl, rfl, rfl, rfl, rfl, rfl⟩ := hz
     go_wp2_with (
      first
      | ((with_reducible refine gate_callee (f := 12) rfl ?_); refine goesL_ (some 36) rfl rfl Try.func12 (by kernel_rfl) rfl #[.agg #[.int .i64 a.o, .int .i64 a.s, .int .i64 a.age, .bool a.ov, .slice Aa a.ad.length ca, .slice Ap a.pf.length cp]] rfl (by (try simp only [List.map_toArray, List.map_cons, List.map_nil]); first | done | rfl | (simp only [List.length_drop, List.length_take]; rfl)) ?_; refine (lsa_Encode.calls k a.o a.s a.age a.ov Aa ca a.ad Ap cp a.pf u 0 _ CA.out.2 CA.out.1 CP.out.2 CP.out.1 HENC.out).mono ?_; rintro e w6 ⟨v6, rfl, hR6, hb6⟩; refine ⟨_, rfl, ?_⟩; obtain ⟨A6, c6, rfl⟩ := Kd.R_slice hR6; have R6 := Aside0.mk hR6; have B26 := Aside0.mk (blk_below B2d.out hb6); have L6 := Aside0.mk (show LBk w6 b6 a (.slice Aa a.ad.length ca) (.slice Ap a.pf.length cp) from blk_below L.out hb6); have RA6 := Aside0.mk (Kd.R_below RA.out hb6); have RP6 := Aside0.mk (Kd.R_below RP.out hb6); have HB6 := Aside0.mk (below_step HBd.out hb6); clear hR6 hb6; obtain ⟨y0, y1, y2, y3, y4, y5, yf0, yf1, yf2, yf3, yf4, yf5⟩ := c6_ B26; obtain ⟨q0, q1, q2, q3, q4, q5, qf0, qf1, qf2, qf3, qf4, qf5⟩ := c6_ L6)
      )
     refine (bytes_Equal.calls A6 c6 u A0 c0 l0 false w6 (Kd.R_reads' R6.out).2.2 (Kd.R_reads' R6.out).2.1 (Kd.C_below HR0.out HB6.out) HC0.out HEQ.out).mono ?_
     rintro e w7 ⟨rfl, hd⟩
     obtain ⟨⟨m7, rfl⟩⟩ := hd
     dsimp only
     have B27 := Aside0.mk (blk_drewN B26.out m7)
     have L7 := Aside0.mk (show LBk (w6.drewN m7) b6 a (.slice Aa a.ad.length ca) (.slice Ap a.pf.length cp) from blk_drewN L6.out m7)
     have RA7 := Aside0.mk (Kd.R_drewN RA6.out m7)
     have RP7 := Aside0.mk (Kd.R_drewN RP6.out m7)
     have HB7 := Aside0.mk (pw_below_drewN HB6.out m7)
     clear B26 L6 RA6 RP6 HB6 R6
     go_wp2_with fail
     refine bodyPost_ret (results_ct rfl _ _ b2 25 #[.int .i64 0, .int .i64 0, .int .i64 0, .bool false, .slice none 0 0, .slice none 0 0] (0, 0) _ rfl (blk_put (cs' := #[.int .i64 0, .int .i64 0, .int .i64 0, .bool false, .slice none 0 0, .slice none 0 0]) (blk_put (cs' := #[.int .i64 0, .int .i64 0, .int .i64 0, .bool false, .slice none 0 0, .slice none 0 0]) (blk_put (cs' := #[.int .i64 0, .int .i64 0, .int .i64 0, .bool false, .slice none 0 0, .slice none 0 0]) (blk_put (cs' := #[.int .i64 0, .int .i64 0, .int .i64 0, .bool false, .slice none 0 0, .slice none 0 0]) (blk_put (cs' := #[.int .i64 0, .int .i64 0, .int .i64 0, .bool false, .slice none 0 0, .slice none 0 0]) (blk_put (cs' := #[.int .i64 0, .int .i64 0, .int .i64 0, .bool false, .slice none 0 0, .slice none 0 0]) B27.out 0 (.int .i64 0) rfl) 1 (.int .i64 0) rfl) 2 (.int .i64 0) rfl) 3 (.bool false) rfl) 4 (.slice none 0 0) rfl) 5 (.slice none 0 0) rfl) Try.underlying25 rfl (by kernel_rfl)) rfl ?_
     exact ⟨_, _, rfl, Kd.R_nil _ _ _ _ _, Kd.R_nil _ _ _ _ _, (below_set (below_set (below_set (below_set (below_set (below_set HB7.out G2.out (j := 0) (v := .int .i64 0)) G2.out (j := 1) (v := .int .i64 0)) G2.out (j := 2) (v := .int .i64 0)) G2.out (j := 3) (v := .bool false)) G2.out (j := 4) (v := .slice none 0 0)) G2.out (j := 5) (v := .slice none 0 0))⟩
   ·have hz := HZ.out
    simp only [if_neg hue, lsaNo, Option.some.injEq, Prod.mk.injEq] at hz
    obtain ⟨rfl, rfl, rfl, rfl, rfl, rfl, rfl⟩ := hz
    have que : (ue != 0) = true := by simpa using hue
    have que2 : (ue == 0) = false := by simpa using hue
    clear hue HZ
    go_wp2_with (
     first
     | ((with_reducible refine gate_callee (f := 12) rfl ?_); refine goesL_ (some 36) rfl rfl Try.func12 (by kernel_rfl) rfl #[.agg #[.int .i64 a.o, .int .i64 a.s, .int .i64 a.age, .bool a.ov, .slice Aa a.ad.length ca, .slice Ap a.pf.length cp]] rfl (by (try simp only [List.map_toArray, List.map_cons, List.map_nil]); first | done | rfl | (simp only [List.length_drop, List.length_take]; rfl)) ?_; refine (lsa_Encode.calls k a.o a.s a.age a.ov Aa ca a.ad Ap cp a.pf u ue _ CA.out.2 CA.out.1 CP.out.2 CP.out.1 HENC.out).mono ?_; rintro e w6 ⟨v6, rfl, hR6, hb6⟩; refine ⟨_, rfl, ?_⟩; obtain ⟨A6, c6, rfl⟩ := Kd.R_slice hR6; have R6 := Aside0.mk hR6; have B26 := Aside0.mk (blk_below B2d.out hb6); have L6 := Aside0.mk (show LBk w6 b6 a (.slice Aa a.ad.length ca) (.slice Ap a.pf.length cp) from blk_below L.out hb6); have RA6 := Aside0.mk (Kd.R_below RA.out hb6); have RP6 := Aside0.mk (Kd.R_below RP.out hb6); have HB6 := Aside0.mk (below_step HBd.out hb6); clear hR6 hb6; obtain ⟨y0, y1, y2, y3, y4, y5, yf0, yf1, yf2, yf3, yf4, yf5⟩ := c6_ B26; obtain ⟨q0, q1, q2, q3, q4, q5, qf0, qf1, qf2, qf3, qf4, qf5⟩ := c6_ L6)
     )
    refine bodyPost_ret (results_ct rfl _ _ b2 25 #[.int .i64 0, .int .i64 0, .int .i64 0, .bool false, .slice none 0 0, .slice none 0 0] (0, 0) _ rfl (blk_put (cs' := #[.int .i64 0, .int .i64 0, .int .i64 0, .bool false, .slice none 0 0, .slice none 0 0]) (blk_put (cs' := #[.int .i64 0, .int .i64 0, .int .i64 0, .bool false, .slice none 0 0, .slice none 0 0]) (blk_put (cs' := #[.int .i64 0, .int .i64 0, .int .i64 0, .bool false, .slice none 0 0, .slice none 0 0]) (blk_put (cs' := #[.int .i64 0, .int .i64 0, .int .i64 0, .bool false, .slice none 0 0, .slice none 0 0]) (blk_put (cs' := #[.int .i64 0, .int .i64 0, .int .i64 0, .bool false, .slice none 0 0, .slice none 0 0]) (blk_put (cs' := #[.int .i64 0, .int .i64 0, .int .i64 0, .bool false, .slice none 0 0, .slice none 0 0]) B26.out 0 (.int .i64 0) rfl) 1 (.int .i64 0) rfl) 2 (.int .i64 0) rfl) 3 (.bool false) rfl) 4 (.slice none 0 0) rfl) 5 (.slice none 0 0) rfl) Try.underlying25 rfl (by kernel_rfl)) rfl ?_
    exact ⟨_, _, rfl, Kd.R_nil _ _ _ _ _, Kd.R_nil _ _ _ _ _, (below_set (below_set (below_set (below_set (below_set (below_set HB6.out G2.out (j := 0) (v := .int .i64 0)) G2.out (j := 1) (v := .int .i64 0)) G2.out (j := 2) (v := .int .i64 0)) G2.out (j := 3) (v := .bool false)) G2.out (j := 4) (v := .slice none 0 0)) G2.out (j := 5) (v := .slice none 0 0))⟩
def lsa_Decode.f (k : Nat) (l0 : List Int) : Option (Int × Int × Int × Bool × (List (S43)) × (List (S56)) × Int) := lsa_Decode.f' k l0
theorem lsa_add.mono (a : LSt) (r : S52) (k : Nat) : LeO (lsa_add.f k a r) (lsa_add.f (k + 1) a r) := by
 unfold lsa_add.f
 repeat' first
  | exact LeO.refl _
  | exact lsa_numbers.mono _ _ _
  | refine LeO.ite ?_ ?_
  | refine LeO.bind ?_ (fun _ => ?_)
theorem lsa_Decode.mono_l (k : Nat) : ∀ (l : List (S52)) (a : LSt), LeO (lsa_Decode.l0' k a l) (lsa_Decode.l0' (k + 1) a l)
 | [], a => LeO.refl _
 | r :: l, a => LeO.bind (lsa_add.mono a r k) (fun p => LeO.ite (lsa_Decode.mono_l k l p.2) (LeO.refl _))
theorem lsa_Decode.mono : ∀ (l0 : List Int) (k : Nat), LeO (lsa_Decode.f k l0) (lsa_Decode.f (k + 1) l0) := by
 intro l0 k
 unfold lsa_Decode.f lsa_Decode.f'
 repeat' first
  | exact LeO.refl _
  | exact fletcher_Check.mono _ _
  | exact codec_Decode.mono _ _
  | exact lsa_Decode.mono_l _ _ _
  | exact lsa_Encode.mono _ _ _ _ _ _ _
  | refine LeO.ite ?_ ?_
  | refine LeO.bind ?_ (fun _ => ?_)
theorem lsa_Decode.calls (k : Nat) (A0 : Option Addr) (c0 : Nat) (l0 : List Int) (r1 : Int) (r2 : Int) (r3 : Int) (r4 : Bool) (r5 : List (S43)) (r6 : List (S56)) (r7 : Int) (w : World) (hr0 : Kd.C (Kd.int .u8) w A0 l0.length l0) (hc0 : l0.length ≤ c0) (h : lsa_Decode.f k l0 = some (r1, r2, r3, r4, r5, r6, r7)) :
  Calls Try.prog 19 #[.slice A0 l0.length c0] w fun e w' => ∃ v4_ v5_ : Value, e = .returned (.tuple #[.agg #[.int .i64 r1, .int .i64 r2, .int .i64 r3, .bool r4, v4_, v5_], .int .i64 r7]) ∧ Kd.R k43 43 w' w.heap.size (fun _ => True) v4_ r5 ∧ Kd.R k56 56 w' w.heap.size (fun _ => True) v5_ r6 ∧ Below w.heap.size w w' := by
 show Calls Try.prog 19 #[.slice A0 l0.length c0] w (LPost w r1 r2 r3 r4 r5 r6 r7)
 obtain ⟨t, ht, h⟩ := Option.bind_eq_some_iff.mp (show (fletcher_Check.f k l0).bind _ = _ from h)
 cases t with
 | false =>
  simp only [Bool.false_eq_true, if_false, lsaNo, Option.some.injEq, Prod.mk.injEq] at h
  obtain ⟨rfl, rfl, rfl, rfl, rfl, rfl, rfl⟩ := h
  exact ldec_sum k A0 c0 l0 w hr0 hc0 ht
 | true =>
  simp only [if_true] at h
  obtain ⟨⟨l, e⟩, hd, h⟩ := Option.bind_eq_some_iff.mp h
  by_cases he : e = 0
  ·simp only [if_pos he] at h
   exact ldec_ok k A0 c0 l0 w hr0 hc0 ht l e hd he none r1 r2 r3 r4 r5 r6 r7 h
  ·simp only [if_neg he, lsaNo, Option.some.injEq, Prod.mk.injEq] at h
   obtain ⟨rfl, rfl, rfl, rfl, rfl, rfl, rfl⟩ := h
   exact ldec_form k A0 c0 l0 w hr0 hc0 ht l e hd he


/-! ### lsa_sign: function 44 -/
def lsa_sign.f (a0 : Int) : Option (Int) := some (mx (-1) (mn 1 a0))
set_option maxHeartbeats 8000000 in
set_option maxRecDepth 100000 in
theorem lsa_sign.calls (a0 : Int) (r : Int) (w : World) (h : lsa_sign.f a0 = some r) :
  Calls Try.prog 44 #[.int .i64 a0] w fun e w' => e = .returned (.int .i64 r) ∧ Below w.heap.size w w' := by
 have HB := Aside0.mk (Below.refl w.heap.size w)
 have H : (some (mx (-1) (mn 1 a0))) = some r := h
 clear h
 obtain ⟨ji2, hji2⟩ : ∃ j_ : Int, (mn 1 a0) = j_ := ⟨_, rfl⟩
 replace H : (some (mx (-1) (ji2))) = some r := by first | (rw [hji2] at H; exact H) | (simp only [hji2] at H ⊢; exact H)
 (try (have hji2h : ji2 ≤ 1 := by (rw [← hji2]; unfold mn; (repeat' split) <;> omega)))
 (try (have hji2g : ji2 ≤ 64 := by omega))
 have hji2_ : (if a0 < 1 then a0 else 1) = ji2 := hji2
 obtain ⟨ji3, hji3⟩ : ∃ j_ : Int, (mx (-1) (ji2)) = j_ := ⟨_, rfl⟩
 replace H : (some ji3) = some r := by first | (rw [hji3] at H; exact H) | (simp only [hji3] at H ⊢; exact H)
 have hji3_ : (if (-1) < (ji2) then (ji2) else (-1)) = ji3 := hji3
 obtain rfl := Option.some.inj H
 go_enter Try.func44, Try.ntmps44
 go_wp2
 go_ret
 exact ⟨by first | rfl | (simp [errW_none, errW_some] <;> rfl) | (simp only [← hji2, ← hji3]; first | rfl | (simp [errW_none, errW_some] <;> rfl)) | (simp [*, errW_none, errW_some] <;> rfl), kw_ HB⟩

/-! ### lsa_purge: function 45 -/
def lsa_purge.f (a0_0 : Int) (a0_1 : Int) (a0_2 : Int) (a0_3 : Bool) (l0_4 : List (S43)) (l0_5 : List (S56)) : Option (Int) := (lsa_flag.f (a0_2 == 3600)).bind fun t245 => (some t245)
set_option maxHeartbeats 8000000 in
set_option maxRecDepth 100000 in
theorem lsa_purge.calls (a0_0 : Int) (a0_1 : Int) (a0_2 : Int) (a0_3 : Bool) (A0_4 : Option Addr) (c0_4 : Nat) (l0_4 : List (S43)) (A0_5 : Option Addr) (c0_5 : Nat) (l0_5 : List (S56)) (r : Int) (w : World) (hr0_4 : Kd.C k43 w A0_4 l0_4.length l0_4) (hc0_4 : l0_4.length ≤ c0_4) (hr0_5 : Kd.C k56 w A0_5 l0_5.length l0_5) (hc0_5 : l0_5.length ≤ c0_5) (h : lsa_purge.f a0_0 a0_1 a0_2 a0_3 l0_4 l0_5 = some r) :
  Calls Try.prog 45 #[.agg #[.int .i64 a0_0, .int .i64 a0_1, .int .i64 a0_2, .bool a0_3, .slice A0_4 l0_4.length c0_4, .slice A0_5 l0_5.length c0_5]] w fun e w' => e = .returned (.int .i64 r) ∧ Below w.heap.size w w' := by
 have hu25 := Try.underlying25
 have HR0_4 := Aside0.mk hr0_4
 have HC0_4 := Aside0.mk hc0_4
 clear hr0_4 hc0_4
 have HR0_5 := Aside0.mk hr0_5
 have HC0_5 := Aside0.mk hc0_5
 clear hr0_5 hc0_5
 have HB := Aside0.mk (Below.refl w.heap.size w)
 have H : ((lsa_flag.f (a0_2 == 3600)).bind fun t245 => (some t245)) = some r := h
 clear h
 replace H := Option.bind_eq_some_iff.mp H
 obtain ⟨t245, A20, H⟩ := H
 replace H : (some t245) = some r := H
 have A2 := Aside0.mk A20
 clear A20
 obtain rfl := Option.some.inj H
 go_enter Try.func45, Try.ntmps45
 go_wp2_with (first | ((with_reducible refine gate_dst (N := 1) rfl ?_); refine bx_ 1 #[.int .i64 a0_0, .int .i64 a0_1, .int .i64 a0_2, .bool a0_3, .slice A0_4 l0_4.length c0_4, .slice A0_5 l0_5.length c0_5] 25 rfl rfl ?hr ?_; (case hr => go_simp; try rfl); intro gb244 hg w3 hbox hb; have BK244 := Aside0.mk (hbox); have GW244 := gs_ HB hg; have GE244 := gs_ HB hg; replace HB := bs_ HB hb; clear hb hbox hg; obtain ⟨hcz4_0, hcz4_1, hcz4_2, hcz4_3, hcz4_4, hcz4_5, hfz4_0, hfz4_1, hfz4_2, hfz4_3, hfz4_4, hfz4_5⟩ := c6_ BK244) | ((with_reducible refine gate_callee (f := 26) rfl ?_); refine goesL_ (some 6) rfl rfl Try.func26 (by kernel_rfl) rfl #[.bool (a0_2 == 3600)] rfl (by (try simp only [List.map_toArray, List.map_cons, List.map_nil]); first | done | rfl | (simp only [List.length_drop, List.length_take]; rfl)) ?_; (with_reducible refine (lsa_flag.calls (a0_2 == 3600) t245 _ A2.out).mono ?_); rintro e w' ⟨rfl, ⟨nd, rfl⟩⟩; refine ⟨_, rfl, ?_⟩))
 go_ret
 exact ⟨by first | rfl | (simp [errW_none, errW_some] <;> rfl) | (simp [*, errW_none, errW_some] <;> rfl), by repeat (first | (with_reducible first | exact HB.out | apply bU | apply bS GE244.out) | exact HB.out)⟩

-- NOT PRINTED: function 62 (bytealg_Compare)

/-! ### bytes_Compare: function 46 -/
theorem bytes_Compare.load_ {P : Program} (w : World) : ∀ (n : Nat) (a : Addr) (xs : List Int) (acc : ByteArray), xs.length = n → (∀ j, j < n → w.cell? (a.add j) = some (.int .u8 (xs.getD j 0))) →
  (Extern.Bytes.loadBytes a n acc).run P w = .ok ⟨acc.data ++ (Lib.bytesOf xs).toArray⟩ w := by
 intro n
 induction n with
 | zero =>
  intro a xs acc hl _
  obtain rfl : xs = [] := List.eq_nil_of_length_eq_zero hl
  simp [Extern.Bytes.loadBytes, Lib.bytesOf]
 | succ n ih =>
  intro a xs acc hl hc
  match xs, hl with
  | x :: xs, hl =>
   have h0 := hc 0 (by omega)
   rw [show a.add 0 = a from by simp [Addr.add]] at h0
   simp only [List.getD_cons_zero] at h0
   unfold Extern.Bytes.loadBytes
   simp only [Sem.run_bind, run_load, h0, Result.andThen]
   rw [ih (a.add 1) xs (acc.push x.toNat.toUInt8) (by simpa using hl) (fun j hj => by
    have := hc (j + 1) (by omega)
    rw [List.getD_cons_succ] at this
    rw [Go.Deep.add_add, Nat.add_comm 1 j]
    exact this)]
   simp [Lib.bytesOf, ByteArray.push]
theorem bytes_Compare.bytes_ {P : Program} {w : World} {A : Option Addr} {l : List Int} {c : Nat} (h : Kd.C (Kd.int .u8) w A l.length l) : (Extern.Bytes.bytesOf (.slice A l.length c)).run P w = .ok ⟨(Lib.bytesOf l).toArray⟩ w := by
 cases A with
 | none =>
  have hl : l = [] := by
   by_cases hz : 0 < l.length
   ·obtain ⟨_, e, _⟩ := h.2.2 hz
    cases e
   ·exact List.length_eq_zero_iff.mp (by omega)
  subst hl
  rfl
 | some ad =>
  have hc : ∀ j, j < l.length → w.cell? (ad.add j) = some (.int .u8 (l.getD j 0)) := by
   intro j hj
   obtain ⟨ad', e, hx⟩ := h.2.2 (by omega)
   obtain rfl : ad = ad' := Option.some.inj e
   obtain ⟨cs, _, hR, hcell⟩ := hx j _ (List.getElem?_eq_getElem hj)
   obtain rfl : cs = [.int .u8 l[j]] := hR
   have := hcell 0 _ rfl
   rw [show j * (Kd.int .u8).sz + 0 = j from by simp [show (Kd.int .u8).sz = 1 from rfl]] at this
   rw [this]
   simp [List.getD_eq_getElem?_getD, List.getElem?_eq_getElem hj]
  show (Extern.Bytes.loadBytes ad l.length .empty).run P w = _
  rw [bytes_Compare.load_ w l.length ad l .empty rfl hc]
  simp
def bytes_Compare.f (l0 : List Int) (l1 : List Int) : Option (Int) := some (Lib.compareBytes (Lib.bytesOf l0) (Lib.bytesOf l1))
set_option maxRecDepth 100000 in
theorem bytes_Compare.calls (A0 : Option Addr) (c0 : Nat) (l0 : List Int) (A1 : Option Addr) (c1 : Nat) (l1 : List Int) (r : Int) (w : World) (hr0 : Kd.C (Kd.int .u8) w A0 l0.length l0) (hc0 : l0.length ≤ c0) (hr1 : Kd.C (Kd.int .u8) w A1 l1.length l1) (hc1 : l1.length ≤ c1) (h : bytes_Compare.f l0 l1 = some r) :
  Calls Try.prog 46 #[.slice A0 l0.length c0, .slice A1 l1.length c1] w fun e w' => e = .returned (.int .i64 r) ∧ Below w.heap.size w w' := by
 obtain rfl := Option.some.inj h
 have b0 : (Extern.Bytes.bytesOf (.slice A0 l0.length c0)).run Try.prog w = .ok ⟨(Lib.bytesOf l0).toArray⟩ w := bytes_Compare.bytes_ hr0
 have b1 : (Extern.Bytes.bytesOf (.slice A1 l1.length c1)).run Try.prog w = .ok ⟨(Lib.bytesOf l1).toArray⟩ w := bytes_Compare.bytes_ hr1
 have hrun : (Extern.BytealgCompare.compare #[.slice A0 l0.length c0, .slice A1 l1.length c1]).run Try.prog w = .ok (.int .i64 (Lib.compareBytes (Lib.bytesOf l0) (Lib.bytesOf l1))) w := by
  change Sem.run Try.prog (do pure (goInt (Extern.BytealgCompare.cmp (← Extern.Bytes.bytesOf (.slice A0 l0.length c0)) (← Extern.Bytes.bytesOf (.slice A1 l1.length c1))))) w = _
  simp only [Sem.run_bind, Sem.run_pure, Result.andThen, b0, b1]
  rw [Lib.cmp_eq]
  rfl
 have H := Lib.hid hrun
 clear hrun b0 b1
 go_enter Try.func46, Try.ntmps46
 go_wp2
 rw [run_callFunc_extern Try.func62 (by kernel_rfl) (by kernel_rfl) (by kernel_rfl) (e := Extern.BytealgCompare.compare) (by kernel_rfl), H.out]
 simp only [Result.andThen]
 rw [Oper.upon_value]
 go_wp2
 go_ret
 exact ⟨rfl, Below.refl _ _⟩


end Go.Proofs.Ytmknjjfdlkgidaa.HLsc
