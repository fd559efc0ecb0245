-- LAID by wip/hand.py, a program of this repository, over the kit's print: contracts of our own are put in. Lean checks it.
import Derived.Test.YtmknjjfdlkgidaaHLscx0
import Derived.Test.YtmknjjfdlkgidaaHLscx9
import Derived.Test.YtmknjjfdlkgidaaHLscx12
import Derived.Test.YtmknjjfdlkgidaaHLscx13
import Derived.Test.YtmknjjfdlkgidaaHLscx14
import Derived.Test.YtmknjjfdlkgidaaHLscx15
namespace Go.Proofs.Ytmknjjfdlkgidaa.HLsc
open Go.RowKit Go.Proofs.YtmknjjfdlkgidaaW.PrintWords Go.Proofs.YtmknjjfdlkgidaaW.PrintLast Go.Proofs.YtmknjjfdlkgidaaW.PrintMore
attribute [local go_sem] gtr_str leq_str max2_int min2_int max_two min_two max_three min_three max_four min_four   -- for this text's walks alone
set_option linter.unusedVariables false
set_option linter.unusedSimpArgs false

/-! ### waypointref32_Decode: function 20 -/
def rd32_step (k : Nat) (x : Int) (a : LSt) (r : S65) : Option LSt :=
 if x = 0 ∧ r.f0 = 1 ∧ r.f1.length = 9 then ((waypointref07_Uint.f k (r.f1.take 2)).bind fun p => (waypointref07_Uint.f k ((r.f1.take 6).drop 2)).bind fun q => (waypointref07_Uint.f k ((r.f1.take 8).drop 6)).bind fun u => some { a with o := wrap64 p, s := wrap64 q, age := wrap64 u, ov := rd r.f1 8 == 1 })
 else if r.f0 = 2 ∧ r.f1.length = 6 then ((waypointref07_Uint.f k (r.f1.take 2)).bind fun p => (waypointref07_Uint.f k ((r.f1.take 4).drop 2)).bind fun q => (waypointref07_Uint.f k ((r.f1.take 6).drop 4)).bind fun u => if a.ad.length < 5864062014805 then some { a with ad := a.ad ++ [⟨wrap64 p, wrap64 q, wrap64 u⟩] } else none)
 else if r.f0 = 3 ∧ r.f1.length = 5 then ((waypointref07_Uint.f k (r.f1.take 4)).bind fun p => if 0 ≤ rd r.f1 4 ∧ rd r.f1 4 ≤ 255 then (if a.pf.length < 8796093022208 then some { a with pf := a.pf ++ [⟨IntKind.u32.wrap p, rd r.f1 4⟩] } else none) else none)
 else some a
def waypointref32_Decode.l0' (k : Nat) : Int → LSt → List (S65) → Option LSt
 | _, a, [] => some a
 | x, a, r :: rs => (rd32_step k x a r).bind fun a' => waypointref32_Decode.l0' k (x + 1) a' rs
def waypointref32_Decode.f (k : Nat) (l0 : List Int) : Option (Int × Int × Int × Bool × (List (S43)) × (List (S56)) × Int) :=
 (waypointref08_Sum.f k l0).bind fun s => if s.1 = 0 ∧ s.2 = 0 then ((waypointref07_Decode.f k l0).bind fun p => if p.2 = 0 then ((waypointref32_Decode.l0' k 0 LSt.zero p.1).bind fun q => (waypointref32_Valid.f k q.o q.s q.age q.ov q.ad q.pf).bind fun v => if v = true then ((waypointref32_Encode.f k q.o q.s q.age q.ov q.ad q.pf).bind fun u => if (strOfNums u).toList = (strOfNums l0).toList then some (q.o, q.s, q.age, q.ov, q.ad, q.pf, 0) else lsaNo 4) else lsaNo 4) else lsaNo 4) else lsaNo 5
def waypointref32_Decode.T13 : Bool × List (List Nat × List Nat) := (true, [([], []), ([0], [0]), ([1], [1]), ([2], [2]), ([], []), ([4], [4]), ([5, 2], [5]), ([6], [6]), ([], []), ([8], [8]), ([9, 6], [9]), ([10], [10]), ([], []), ([12], [12]), ([13], [13]), ([14], [14]), ([0, 1, 2, 3], []), ([16, 3, 10, 0, 1, 2, 3], [3, 16]), ([0, 1, 2, 3, 4, 5, 6, 7, 16, 17], []), ([18, 7, 17, 0, 1, 2, 3, 4, 5, 6, 7, 16, 17], [7, 18]), ([0, 1, 2, 3, 4, 5, 6, 7, 8, 9, 10, 11, 16, 17, 18, 19], []), ([20, 11, 19, 0, 1, 2, 3, 4, 5, 6, 7, 8, 9, 10, 11, 16, 17, 18, 19], [11, 20]), ([0, 1, 2, 3, 4, 5, 6, 7, 8, 9, 10, 11, 12, 13, 14, 15, 16, 17, 18, 19, 20, 21], []), ([22, 15, 21, 0, 1, 2, 3, 4, 5, 6, 7, 8, 9, 10, 11, 12, 13, 14, 15, 16, 17, 18, 19, 20, 21], [15, 22])])
def waypointref32_Decode.B13 : List Nat := [0, 1, 3, 7, 0, 16, 55, 119, 0, 256, 887, 1911, 0, 4096, 12288, 28672, 15, 67455, 198655, 460799, 987135, 2035711, 4194303, 8388607]
theorem waypointref32_Decode.tab13 : rtab .any (opsOf Try.f20 13) = waypointref32_Decode.T13 := by kernel_rfl
theorem waypointref32_Decode.bits13 : waitsOk waypointref32_Decode.T13.2 waypointref32_Decode.B13 = true := by kernel_rfl
def waypointref32_Decode.T15 : Bool × List (List Nat × List Nat) := (true, [([], []), ([0], [0]), ([], []), ([2], [2]), ([3], [3]), ([4], [4]), ([], []), ([6], [6]), ([7, 4], [7]), ([8], [8]), ([], []), ([10], [10]), ([11, 8], [11]), ([12], [12]), ([5, 9, 13], [5, 9, 13]), ([14], [14]), ([1, 15, 12], [1, 15]), ([0, 1, 2, 3, 4, 5, 6, 7, 8, 9, 10, 11, 12, 13, 14, 15, 16], []), ([17, 16, 16, 0, 1, 2, 3, 4, 5, 6, 7, 8, 9, 10, 11, 12, 13, 14, 15, 16], [16, 17])])
def waypointref32_Decode.B15 : List Nat := [0, 1, 0, 4, 12, 28, 0, 64, 220, 476, 0, 1024, 3548, 7644, 16380, 32764, 65535, 131071, 262143]
theorem waypointref32_Decode.tab15 : rtab .any (opsOf Try.f20 15) = waypointref32_Decode.T15 := by kernel_rfl
theorem waypointref32_Decode.bits15 : waitsOk waypointref32_Decode.T15.2 waypointref32_Decode.B15 = true := by kernel_rfl
def waypointref32_Decode.T17 : Bool × List (List Nat × List Nat) := (true, [([], []), ([0], [0]), ([], []), ([2], [2]), ([3], [3]), ([4], [4]), ([], []), ([6], [6]), ([7], [7]), ([8], [8]), ([5, 9], [5, 9]), ([10], [10]), ([1, 11, 4], [1, 11]), ([0, 1, 2, 3, 4, 5, 6, 7, 8, 9, 10, 11, 12], []), ([13, 12, 12, 0, 1, 2, 3, 4, 5, 6, 7, 8, 9, 10, 11, 12], [12, 13])])
def waypointref32_Decode.B17 : List Nat := [0, 1, 0, 4, 12, 28, 0, 64, 192, 448, 1020, 2044, 4095, 8191, 16383]
theorem waypointref32_Decode.tab17 : rtab .any (opsOf Try.f20 17) = waypointref32_Decode.T17 := by kernel_rfl
theorem waypointref32_Decode.bits17 : waitsOk waypointref32_Decode.T17.2 waypointref32_Decode.B17 = true := by kernel_rfl
def waypointref32_Decode.T18 : Bool × List (List Nat × List Nat) := (true, [([], []), ([0], [0]), ([1], [1]), ([2, 1], [2]), ([3], [3]), ([4, 3, 3], [3, 4]), ([5, 3], [3, 5]), ([3], [3]), ([7, 3], [3, 7]), ([6, 8, 3], [3, 6, 8]), ([3, 9], [3, 9])])
def waypointref32_Decode.B18 : List Nat := [0, 1, 3, 7, 15, 31, 63, 15, 143, 511, 1023]
theorem waypointref32_Decode.tab18 : rtab .any (opsOf Try.f20 18) = waypointref32_Decode.T18 := by kernel_rfl
theorem waypointref32_Decode.bits18 : waitsOk waypointref32_Decode.T18.2 waypointref32_Decode.B18 = true := by kernel_rfl
def ZC32 : Array Value := #[.int .i64 0, .int .i64 0, .int .i64 0, .bool false, .slice none 0 0, .slice none 0 0]
structure DS32 (w W : World) (b2 b8 : Nat) (A1 : Option Addr) (c1 : Nat) (l : List (S65)) (a : LSt) (va vp : Value) : Prop where
 L : LBk W b8 a va vp
 RA : Kd.R k43 43 W w.heap.size (fun _ => True) va a.ad
 RP : Kd.R k56 56 W w.heap.size (fun _ => True) vp a.pf
 RL : Kd.R k65 65 W w.heap.size (fun _ => True) (.slice A1 l.length c1) l
 B2 : W.heap[b2]? = some (.cells #[.int .i64 0, .int .i64 0, .int .i64 0, .bool false, .slice none 0 0, .slice none 0 0] 25 (0, 0))
 HB : Below w.heap.size w W
section
variable {w W W2 : World} {b2 b8 : Nat} {A1 : Option Addr} {c1 : Nat} {l : List (S65)} {a : LSt} {va vp v2 : Value}
theorem DS32.below (h : DS32 w W b2 b8 A1 c1 l a va vp) (hb : Below W.heap.size W W2) : DS32 w W2 b2 b8 A1 c1 l a va vp := ⟨blk_below h.L hb, Kd.R_below h.RA hb, Kd.R_below h.RP hb, Kd.R_below h.RL hb, blk_below h.B2 hb, below_step h.HB hb⟩
theorem DS32.put (h : DS32 w W b2 b8 A1 c1 l a va vp) (hne : b2 ≠ b8) (hz : w.heap.size ≤ b8) (j : Nat) (v : Value) (a' : LSt) (had : a'.ad = a.ad) (hpf : a'.pf = a.pf) (hL : LBk (W.setCell ⟨b8, j, none⟩ v) b8 a' va vp) : DS32 w (W.setCell ⟨b8, j, none⟩ v) b2 b8 A1 c1 l a' va vp :=
 ⟨hL, had ▸ Kd.R_set h.RA h.L (by decide) _ _, hpf ▸ Kd.R_set h.RP h.L (by decide) _ _, Kd.R_set h.RL h.L (by decide) _ _, blk_far h.B2 hne _, h.HB.setCell (p := ⟨b8, j, none⟩) hz _⟩
theorem DS32.put0 (h : DS32 w W b2 b8 A1 c1 l a va vp) (hne : b2 ≠ b8) (hz : w.heap.size ≤ b8) (x : Int) : DS32 w (W.setCell ⟨b8, 0, none⟩ (.int .i64 x)) b2 b8 A1 c1 l { a with o := x } va vp := h.put hne hz 0 _ _ rfl rfl (blk_put h.L 0 _ rfl)
theorem DS32.put1 (h : DS32 w W b2 b8 A1 c1 l a va vp) (hne : b2 ≠ b8) (hz : w.heap.size ≤ b8) (x : Int) : DS32 w (W.setCell ⟨b8, 1, none⟩ (.int .i64 x)) b2 b8 A1 c1 l { a with s := x } va vp := h.put hne hz 1 _ _ rfl rfl (blk_put h.L 1 _ rfl)
theorem DS32.put2 (h : DS32 w W b2 b8 A1 c1 l a va vp) (hne : b2 ≠ b8) (hz : w.heap.size ≤ b8) (x : Int) : DS32 w (W.setCell ⟨b8, 2, none⟩ (.int .i64 x)) b2 b8 A1 c1 l { a with age := x } va vp := h.put hne hz 2 _ _ rfl rfl (blk_put h.L 2 _ rfl)
theorem DS32.put3 (h : DS32 w W b2 b8 A1 c1 l a va vp) (hne : b2 ≠ b8) (hz : w.heap.size ≤ b8) (x : Bool) : DS32 w (W.setCell ⟨b8, 3, none⟩ (.bool x)) b2 b8 A1 c1 l { a with ov := x } va vp := h.put hne hz 3 _ _ rfl rfl (blk_put h.L 3 _ rfl)
theorem DS32.adj {ad2 : List AdT} (h : DS32 w W b2 b8 A1 c1 l a va vp) (hne : b2 ≠ b8) (hz : w.heap.size ≤ b8) (hg : W.grownBy W2 va.ownBlock) (hb : Below w.heap.size w W2) (hR : Kd.R k43 43 W2 w.heap.size (fun _ => True) v2 ad2) : DS32 w (W2.setCell ⟨b8, 4, none⟩ v2) b2 b8 A1 c1 l { a with ad := ad2 } v2 vp := by
 have hL : LBk W2 b8 a va vp := (hg.block b8 (blk_lt h.L) (Kd.R_ne h.RA h.L (by decide))).trans h.L
 exact ⟨blk_put hL 4 _ rfl, Kd.R_set hR hL (by decide) _ _, Kd.R_set (Kd.R_over h.RP h.RA (by decide) hg) hL (by decide) _ _, Kd.R_set (Kd.R_over h.RL h.RA (by decide) hg) hL (by decide) _ _, blk_far ((hg.block b2 (blk_lt h.B2) (Kd.R_ne h.RA h.B2 (by decide))).trans h.B2) hne _, hb.setCell (p := ⟨b8, 4, none⟩) hz _⟩
theorem DS32.pre {pf2 : List PfT} (h : DS32 w W b2 b8 A1 c1 l a va vp) (hne : b2 ≠ b8) (hz : w.heap.size ≤ b8) (hg : W.grownBy W2 vp.ownBlock) (hb : Below w.heap.size w W2) (hR : Kd.R k56 56 W2 w.heap.size (fun _ => True) v2 pf2) : DS32 w (W2.setCell ⟨b8, 5, none⟩ v2) b2 b8 A1 c1 l { a with pf := pf2 } va v2 := by
 have hL : LBk W2 b8 a va vp := (hg.block b8 (blk_lt h.L) (Kd.R_ne h.RP h.L (by decide))).trans h.L
 exact ⟨blk_put hL 5 _ rfl, Kd.R_set (Kd.R_over h.RA h.RP (by decide) hg) hL (by decide) _ _, Kd.R_set hR hL (by decide) _ _, Kd.R_set (Kd.R_over h.RL h.RP (by decide) hg) hL (by decide) _ _, blk_far ((hg.block b2 (blk_lt h.B2) (Kd.R_ne h.RP h.B2 (by decide))).trans h.B2) hne _, hb.setCell (p := ⟨b8, 5, none⟩) hz _⟩
theorem LBk.ne_u8 {g b o : Nat} {A2 A3 : Option Addr} {n2 c2 n3 c3 : Nat} {x : Int} (h : LBk W g a (.slice A2 n2 c2) (.slice A3 n3 c3)) (hc : W.cell? ⟨b, o, none⟩ = some (.int .u8 x)) : b ≠ g := by
 rintro rfl
 have e := (blk_cell h o).symm.trans hc
 rcases o with _ | _ | _ | _ | _ | _ | o <;> simp at e
end
set_option maxHeartbeats 8000000 in
set_option maxRecDepth 100000 in
theorem rd32_loop (k : Nat) (A0 : Option Addr) (c0 : Nat) (l0 : List Int) (w : World) (hr0 : Kd.C (Kd.int .u8) w A0 l0.length l0) (hc0 : l0.length ≤ c0) (h : waypointref08_Sum.f k l0 = some (0, 0)) (l : List (S65)) (hd : waypointref07_Decode.f k l0 = some (l, 0)) (q : LSt) (hq : waypointref32_Decode.l0' k 0 LSt.zero l = some q) (v : Bool) (hv : waypointref32_Valid.f k q.o q.s q.age q.ov q.ad q.pf = some v) (r1 : Int) (r2 : Int) (r3 : Int) (r4 : Bool) (r5 : List AdT) (r6 : List PfT) (r7 : Int)
  (hz : (if v = true then ((waypointref32_Encode.f k q.o q.s q.age q.ov q.ad q.pf).bind fun u => if (strOfNums u).toList = (strOfNums l0).toList then some (q.o, q.s, q.age, q.ov, q.ad, q.pf, 0) else lsaNo 4) else lsaNo 4) = some (r1, r2, r3, r4, r5, r6, r7)) :
  Calls Try.prog 20 #[.slice A0 l0.length c0] w (LPost w r1 r2 r3 r4 r5 r6 r7) := by
 have hu := Try.underlying25
 have hu2 := Try.underlying65
 have HH := Aside0.mk h
 have HD := Aside0.mk hd
 have HR0 := Aside0.mk hr0
 have HC0 := Aside0.mk hc0
 have HQ := Aside0.mk hq
 have HV := Aside0.mk hv
 have HZ := Aside0.mk hz
 clear h hr0 hc0 hd hq hv hz
 go_enter Try.func20, Try.ntmps20
 go_wp2_with (
  first
  | ((with_reducible refine gate_dst (N := 2) rfl ?_); refine bx_ 2 #[.int .i64 0, .int .i64 0, .int .i64 0, .bool false, .slice none 0 0, .slice none 0 0] 25 rfl rfl ?hr ?_; (case hr => go_simp; try rfl); intro b2 hg wa hbox hb; have B2 := Aside0.mk hbox; have HB := Aside0.mk hb; have G2 := Aside0.mk (Nat.le_of_eq hg.symm); clear hbox hb hg)
  | ((with_reducible refine gate_callee (f := 41) rfl ?_); refine goesL_ (some 13) rfl rfl Try.func41 (by kernel_rfl) rfl #[.slice A0 l0.length c0] rfl (by (try simp only [List.map_toArray, List.map_cons, List.map_nil]); first | done | rfl | (simp only [List.length_drop, List.length_take]; rfl)) ?_; refine (waypointref08_Sum.calls k A0 c0 l0 0 0 _ (Kd.C_below HR0.out HB.out) HC0.out HH.out).mono ?_; rintro e w1 ⟨rfl, hd⟩; refine ⟨_, rfl, ?_⟩; obtain ⟨⟨nq, rfl⟩⟩ := hd; have B2a := Aside0.mk (blk_drewN B2.out nq); have HBa := Aside0.mk (pw_below_drewN HB.out nq))
  | ((with_reducible refine gate_callee (f := 42) rfl ?_); refine goesL_ (some 25) rfl rfl Try.func42 (by kernel_rfl) rfl #[.slice A0 l0.length c0] rfl (by (try simp only [List.map_toArray, List.map_cons, List.map_nil]); first | done | rfl | (simp only [List.length_drop, List.length_take]; rfl)) ?_; refine (waypointref07_Decode.calls k A0 c0 l0 l 0 _ (Kd.C_below HR0.out HBa.out) HC0.out HD.out).mono ?_; rintro e w1 ⟨v1, rfl, hR, hb1⟩; refine ⟨_, rfl, ?_⟩; obtain ⟨A1, c1, rfl⟩ := Kd.R_slice hR; have HR1 := Aside0.mk (Kd.R_lower hR (below_size HBa.out)); have B2b := Aside0.mk (blk_below B2a.out hb1); have HBb := Aside0.mk (below_step HBa.out hb1); clear hR hb1; obtain ⟨x0, x1, x2, x3, x4, x5, xf0, xf1, xf2, xf3, xf4, xf5⟩ := c6_ B2b)
  | ((with_reducible refine gate_dst (N := 8) rfl ?_); refine bx_ 8 #[.int .i64 0, .int .i64 0, .int .i64 0, .bool false, .slice none 0 0, .slice none 0 0] 25 rfl rfl ?hr ?_; (case hr => go_simp; try rfl); intro b8 hg wc hbox hb; have G8 := Aside0.mk (show w.heap.size ≤ b8 by rw [hg]; exact HBb.out.size); have N28 := Aside0.mk (show b2 ≠ b8 by rw [hg]; exact Nat.ne_of_lt (blk_lt B2b.out)); have D0 := Aside0.mk (show DS32 w wc b2 b8 A1 c1 l LSt.zero (.slice none 0 0) (.slice none 0 0) from ⟨hbox, Kd.R_nil _ _ _ _ _, Kd.R_nil _ _ _ _ _, Kd.R_below HR1.out hb, blk_below B2b.out hb, below_step HBb.out hb⟩); clear x0 x1 x2 x3 x4 x5 xf0 xf1 xf2 xf3 xf4 xf5; clear hbox hb hg)
  )
 go_loopw [9] (fun v9 wr => ∃ (x : Int) (a : LSt) (va vp : Value), v9 = .int .i64 x ∧ Aside0 (0 ≤ x ∧ x ≤ l.length) ∧ Aside0 (waypointref32_Decode.l0' k x a (l.drop x.toNat) = some q) ∧ Aside0 (DS32 w wr b2 b8 A1 c1 l a va vp)) (fun v9 _ => ((l.length : Int) - intOf v9).toNat)
 case atStart => exact ⟨0, LSt.zero, _, _, rfl, ⟨by omega, by omega⟩, ⟨HQ.out⟩, D0⟩
 case round =>
  clear B2 HB B2a HBa B2b HBb HR1 D0 HQ
  obtain ⟨x, a, va, vp, rfl, hi, HS, D⟩ := hrel
  obtain ⟨Aa, ca, rfl⟩ := Kd.R_slice D.out.RA
  obtain ⟨Ap, cp, rfl⟩ := Kd.R_slice D.out.RP
  have xx0 := hi.out.1
  have xx1 := hi.out.2
  by_cases cz : x < (l.length : Int)
  ·have cn : x.toNat < l.length := by omega
   have rl := (Kd.R_reads' D.out.RL).2.2
   have hmx : l.length ≤ 9223372036854775807 := rl.2.1
   obtain ⟨ad, A9, c9, e9, y0, y1, hl9, hC9⟩ := at_T65 rl x xx0 cz
   subst e9
   have hs := HS.out
   have hdr : l.drop x.toNat = rd_T65 l x :: l.drop (x + 1).toNat := by
    rw [List.drop_eq_getElem_cons cn]
    congr 1
    ·simp [rd_T65, List.getD_eq_getElem?_getD, List.getElem?_eq_getElem cn]
    ·congr 1; omega
   rw [hdr] at hs
   generalize rd_T65 l x = r at y0 y1 hl9 hC9 hs
   obtain ⟨a', hst, hs⟩ := Option.bind_eq_some_iff.mp hs
   have HS2 := Aside0.mk hs
   have HC9 := Aside0.mk hC9
   have HL9 := Aside0.mk hl9
   have hmx9 : r.f1.length ≤ 9223372036854775807 := hC9.2.1
   obtain ⟨i05, hi5, _, hsz5, _⟩ := info_parts info5
   clear hs hC9 hl9 hdr HS rl cn
   by_cases w1 : x = 0 ∧ r.f0 = 1 ∧ r.f1.length = 9
   ·rw [rd32_step, if_pos w1] at hst
    have hlen : 9 ≤ r.f1.length ∧ r.f1.length ≤ 9 := by omega
    have qx : (x == 0) = true := by simpa using w1.1
    have qt : (r.f0 == 1) = true := by simpa using w1.2.1
    have ql : ((r.f1.length : Int) == 9) = true := by simp; omega
    have ql' : (r.f1.length == 9) = true := by simp; omega
    clear w1
    obtain ⟨v1, hv1⟩ : ∃ v : List Int, r.f1.take 2 = v := ⟨_, rfl⟩
    have hl1 : v1.length = 2 := by rw [← hv1]; simp only [List.length_drop, List.length_take]; omega
    have hcut1 : ∀ W : World, (Instr.slice 28 (.slice A9 r.f1.length c9) none (some (.int .i64 2)) none).run Try.prog W = .ok (.slice A9 v1.length c9) W := by
     intro W
     have h := cut_to (P := Try.prog) 28 5 .i64 Try.underlying28 hi5 A9 r.f1.length c9 2 (by decide) (by omega) HL9.out W
     rw [h, hl1]
     rfl
    have HC1 := Aside0.mk (show Kd.C (Kd.int .u8) wr A9 v1.length v1 from by have h := Kd.C_take (m := 2) HC9.out (by omega); rw [hv1] at h; exact h)
    have HM1 := Aside0.mk (show v1.length ≤ c9 by have := HL9.out; omega)
    obtain ⟨v2, hv2⟩ : ∃ v : List Int, (r.f1.take 6).drop 2 = v := ⟨_, rfl⟩
    have hl2 : v2.length = 4 := by rw [← hv2]; simp only [List.length_drop, List.length_take]; omega
    obtain ⟨Am2, hAm2⟩ : ∃ Am : Option Addr, (if c9 = 2 then A9 else A9.map (·.add (2 * 1))) = Am := ⟨_, rfl⟩
    have hcut2 : ∀ W : World, (Instr.slice 28 (.slice A9 r.f1.length c9) (some (.int .i64 2)) (some (.int .i64 6)) none).run Try.prog W = .ok (.slice Am2 v2.length (c9 - 2)) W := by
     intro W
     have h := cut_mid (P := Try.prog) 28 5 .i64 .i64 Try.underlying28 hi5 1 hsz5 A9 r.f1.length c9 2 6 (by decide) (by decide) (by omega) HL9.out W
     rw [h, hl2, ← hAm2]
     rfl
    have HC2 := Aside0.mk (show Kd.C (Kd.int .u8) wr Am2 v2.length v2 from by have h := Kd.C_mid (lo := 2) (hi := 6) (c := c9) HC9.out (by omega) (by omega) HL9.out; rw [hv2] at h; rw [← hAm2]; exact h)
    have HM2 := Aside0.mk (show v2.length ≤ c9 - 2 by have := HL9.out; omega)
    obtain ⟨v3, hv3⟩ : ∃ v : List Int, (r.f1.take 8).drop 6 = v := ⟨_, rfl⟩
    have hl3 : v3.length = 2 := by rw [← hv3]; simp only [List.length_drop, List.length_take]; omega
    obtain ⟨Am3, hAm3⟩ : ∃ Am : Option Addr, (if c9 = 6 then A9 else A9.map (·.add (6 * 1))) = Am := ⟨_, rfl⟩
    have hcut3 : ∀ W : World, (Instr.slice 28 (.slice A9 r.f1.length c9) (some (.int .i64 6)) (some (.int .i64 8)) none).run Try.prog W = .ok (.slice Am3 v3.length (c9 - 6)) W := by
     intro W
     have h := cut_mid (P := Try.prog) 28 5 .i64 .i64 Try.underlying28 hi5 1 hsz5 A9 r.f1.length c9 6 8 (by decide) (by decide) (by omega) HL9.out W
     rw [h, hl3, ← hAm3]
     rfl
    have HC3 := Aside0.mk (show Kd.C (Kd.int .u8) wr Am3 v3.length v3 from by have h := Kd.C_mid (lo := 6) (hi := 8) (c := c9) HC9.out (by omega) (by omega) HL9.out; rw [hv3] at h; rw [← hAm3]; exact h)
    have HM3 := Aside0.mk (show v3.length ≤ c9 - 6 by have := HL9.out; omega)
    obtain ⟨p1, hu1, hst⟩ := Option.bind_eq_some_iff.mp hst
    rw [hv1] at hu1
    have HU1 := Aside0.mk hu1
    clear hu1
    obtain ⟨p2, hu2, hst⟩ := Option.bind_eq_some_iff.mp hst
    rw [hv2] at hu2
    have HU2 := Aside0.mk hu2
    clear hu2
    obtain ⟨p3, hu3, hst⟩ := Option.bind_eq_some_iff.mp hst
    rw [hv3] at hu3
    have HU3 := Aside0.mk hu3
    clear hu3
    obtain rfl := Option.some.inj hst
    obtain ⟨ad9, hA9, hv8⟩ := Kd.at_int HC9.out 8 (by omega) (by omega)
    subst hA9
    have hS0 : wr.cell? ⟨ad9.block, ad9.off + 8, none⟩ = some (.int .u8 (rd r.f1 8)) := hv8
    have i8 : (8 : Int) < r.f1.length := by omega
    have i8' : (0 : Int) ≤ 8 := by decide
    clear hv8 hst hv1 hv2 hv3 hl1 hl2 hl3
    have hne9 := LBk.ne_u8 D.out.L hS0
    go_wp2_with fail
    refine start_ (n := 24) (S := fun w' => w'.cell? ⟨ad9.block, ad9.off + 8, none⟩ = some (.int .u8 (rd r.f1 8))) (ds := [23]) #[false, false, false, false, false, false, false, false, false, false, false, false, false, false, false, false, false, false, false, false, false, false, false, false] (by kernel_rfl) rfl rfl hS0 (fun hHeld => ?_); refine with_tabW waypointref32_Decode.tab13 waypointref32_Decode.bits13 (fun HT_ HW_ => ?_)
    replace D := Aside0.mk (D.out.below (below_drew1 (Below.refl _ _)))
    replace HC1 := Aside0.mk (Kd.C_drew HC1.out)
    replace HC2 := Aside0.mk (Kd.C_drew HC2.out)
    replace HC3 := Aside0.mk (Kd.C_drew HC3.out)
    clear hS0
    generalize wr.drew = wd at D HC1 HC2 HC3 hHeld ⊢
    refine py 0 58 HT_ ?_
    refine py 4 62 HT_ ?_
    refine py 8 66 HT_ ?_
    refine py 12 70 HT_ ?_
    refine py 1 59 HT_ ?_
    refine py 5 63 HT_ ?_
    refine py 9 67 HT_ ?_
    refine ty 13 71 HT_ HW_ rfl (Or.inl ⟨by rfl, by rintro w' s0; go_simp; with_reducible rfl⟩) hHeld ?_
    refine ty 14 72 HT_ HW_ rfl (Or.inl ⟨by rfl, by rintro w' s0; go_simp; with_reducible rfl⟩) hHeld ?_
    refine py 15 73 HT_ ?_
    clear hcut1 hcut2 hcut3
    refine one_ (i := 2) (N := some 60) #[true, true, true, false, true, true, false, false, true, true, false, false, true, true, true, true, false, false, false, false, false, false, false, false] rfl rfl (one_of HT_.out (by kernel_rfl)) (by decide) (fun K hK => ?_)
    refine goes_ Try.func43 (by kernel_rfl) rfl #[.slice (some ad9) v1.length (c9)] (by rfl) rfl rfl (by (try simp only [List.map_toArray, List.map_cons, List.map_nil]); first | done | rfl | (simp only [List.length_drop, List.length_take]; rfl)) ?_
    refine (waypointref07_Uint.calls k (some ad9) (c9) v1 p1 _ HC1.out HM1.out HU1.out).mono ?_
    rintro e wx ⟨rfl, hd⟩
    obtain ⟨⟨nq, rfl⟩⟩ := hd
    refine ⟨_, rfl, ?_⟩
    replace D := Aside0.mk (D.out.below (pw_below_drewN (Below.refl _ _) nq))
    replace HC2 := Aside0.mk (Kd.C_drewN HC2.out nq)
    replace HC3 := Aside0.mk (Kd.C_drewN HC3.out nq)
    refine hK.out _ _ hHeld (fun hHeld => ?_)
    clear hK K
    refine norm_ (a' := ?_) ?_ ?_
    rotate_left
    ·show Act.put _ (some 60) _ = _
     simp only [Act.put, List.setIfInBounds_toArray, List.set_cons_zero, List.set_cons_succ, i64_w, i32_w]
     rfl
    generalize World.drewN _ nq = wd at D HC2 HC3 hHeld ⊢
    refine py 3 61 HT_ ?_
    refine py 16 74 HT_ ?_
    refine one_ (i := 6) (N := some 64) #[true, true, true, true, true, true, true, false, true, true, false, false, true, true, true, true, true, false, false, false, false, false, false, false] rfl rfl (one_of HT_.out (by kernel_rfl)) (by decide) (fun K hK => ?_)
    refine goes_ Try.func43 (by kernel_rfl) rfl #[.slice Am2 v2.length (c9 - 2)] (by rfl) rfl rfl (by (try simp only [List.map_toArray, List.map_cons, List.map_nil]); first | done | rfl | (simp only [List.length_drop, List.length_take]; rfl)) ?_
    refine (waypointref07_Uint.calls k Am2 (c9 - 2) v2 p2 _ HC2.out HM2.out HU2.out).mono ?_
    rintro e wx ⟨rfl, hd⟩
    obtain ⟨⟨nq, rfl⟩⟩ := hd
    refine ⟨_, rfl, ?_⟩
    replace D := Aside0.mk (D.out.below (pw_below_drewN (Below.refl _ _) nq))
    replace HC3 := Aside0.mk (Kd.C_drewN HC3.out nq)
    refine hK.out _ _ hHeld (fun hHeld => ?_)
    clear hK K
    refine norm_ (a' := ?_) ?_ ?_
    rotate_left
    ·show Act.put _ (some 64) _ = _
     simp only [Act.put, List.setIfInBounds_toArray, List.set_cons_zero, List.set_cons_succ, i64_w, i32_w]
     rfl
    generalize World.drewN _ nq = wd at D HC3 hHeld ⊢
    refine py 7 65 HT_ ?_
    refine one_ (i := 10) (N := some 68) #[true, true, true, true, true, true, true, true, true, true, true, false, true, true, true, true, true, false, false, false, false, false, false, false] rfl rfl (one_of HT_.out (by kernel_rfl)) (by decide) (fun K hK => ?_)
    refine goes_ Try.func43 (by kernel_rfl) rfl #[.slice Am3 v3.length (c9 - 6)] (by rfl) rfl rfl (by (try simp only [List.map_toArray, List.map_cons, List.map_nil]); first | done | rfl | (simp only [List.length_drop, List.length_take]; rfl)) ?_
    refine (waypointref07_Uint.calls k Am3 (c9 - 6) v3 p3 _ HC3.out HM3.out HU3.out).mono ?_
    rintro e wx ⟨rfl, hd⟩
    obtain ⟨⟨nq, rfl⟩⟩ := hd
    refine ⟨_, rfl, ?_⟩
    replace D := Aside0.mk (D.out.below (pw_below_drewN (Below.refl _ _) nq))
    refine hK.out _ _ hHeld (fun hHeld => ?_)
    clear hK K
    refine norm_ (a' := ?_) ?_ ?_
    rotate_left
    ·show Act.put _ (some 68) _ = _
     simp only [Act.put, List.setIfInBounds_toArray, List.set_cons_zero, List.set_cons_succ, i64_w, i32_w]
     rfl
    generalize World.drewN _ nq = wd at D  hHeld ⊢
    refine py 11 69 HT_ ?_
    have c0 := (blk_cell D.out.L 0).trans rfl
    have f0 := blk_frozen D.out.L 0
    refine one_ (i := 17) (N := none) #[true, true, true, true, true, true, true, true, true, true, true, true, true, true, true, true, true, true, false, false, false, false, false, false] rfl rfl (one_of HT_.out (by kernel_rfl)) (by decide) (fun K hK => ?_)
    refine skip_ (w1 := ?_) (by rfl) rfl ?_ ?_
    rotate_left
    ·go_simp
     rfl
    replace D := Aside0.mk (D.out.put0 N28.out G8.out (wrap64 p1))
    clear c0 f0
    refine hK.out _ _ ((World.cell?_of_block (Below.heap_setCell _ _ _ _ hne9)).trans hHeld) (fun hHeld => ?_)
    clear hK K
    refine py 18 75 HT_ ?_
    have c0 := (blk_cell D.out.L 1).trans rfl
    have f0 := blk_frozen D.out.L 1
    refine one_ (i := 19) (N := none) #[true, true, true, true, true, true, true, true, true, true, true, true, true, true, true, true, true, true, true, true, false, false, false, false] rfl rfl (one_of HT_.out (by kernel_rfl)) (by decide) (fun K hK => ?_)
    refine skip_ (w1 := ?_) (by rfl) rfl ?_ ?_
    rotate_left
    ·go_simp
     rfl
    replace D := Aside0.mk (D.out.put1 N28.out G8.out (wrap64 p2))
    clear c0 f0
    refine hK.out _ _ ((World.cell?_of_block (Below.heap_setCell _ _ _ _ hne9)).trans hHeld) (fun hHeld => ?_)
    clear hK K
    refine py 20 76 HT_ ?_
    have c0 := (blk_cell D.out.L 2).trans rfl
    have f0 := blk_frozen D.out.L 2
    refine one_ (i := 21) (N := none) #[true, true, true, true, true, true, true, true, true, true, true, true, true, true, true, true, true, true, true, true, true, true, false, false] rfl rfl (one_of HT_.out (by kernel_rfl)) (by decide) (fun K hK => ?_)
    refine skip_ (w1 := ?_) (by rfl) rfl ?_ ?_
    rotate_left
    ·go_simp
     rfl
    replace D := Aside0.mk (D.out.put2 N28.out G8.out (wrap64 p3))
    clear c0 f0
    refine hK.out _ _ ((World.cell?_of_block (Below.heap_setCell _ _ _ _ hne9)).trans hHeld) (fun hHeld => ?_)
    clear hK K
    refine py 22 77 HT_ ?_
    have c0 := (blk_cell D.out.L 3).trans rfl
    have f0 := blk_frozen D.out.L 3
    refine last_ (i := 23) (N := none) #[true, true, true, true, true, true, true, true, true, true, true, true, true, true, true, true, true, true, true, true, true, true, true, true] rfl rfl (one_of HT_.out (by kernel_rfl)) (by decide) (fun K hK => ?_)
    refine skip_ (w1 := ?_) (by rfl) rfl ?_ ?_
    rotate_left
    ·go_simp
     rfl
    replace D := Aside0.mk (D.out.put3 N28.out G8.out (rd r.f1 8 == 1))
    clear c0 f0
    refine hK.out _ _ ?_
    clear hK K
    refine done_ (done_of HT_.out (by kernel_rfl)) ?_
    clear HT_ HW_ hHeld
    go_wp2_with fail
    go_roundw
    case rel => exact ⟨x + 1, _, _, _, by rfl, ⟨by omega, by omega⟩, ⟨HS2.out⟩, D⟩
    case measure => simp [intOf]; omega
   by_cases w2 : r.f0 = 2 ∧ r.f1.length = 6
   ·rw [rd32_step, if_neg w1, if_pos w2] at hst
    have hlen : 6 ≤ r.f1.length ∧ r.f1.length ≤ 6 := by omega
    have qt1 : (r.f0 == 1) = false := by simp; omega
    have qt : (r.f0 == 2) = true := by simpa using w2.1
    have ql : ((r.f1.length : Int) == 6) = true := by simp; omega
    have ql' : (r.f1.length == 6) = true := by simp; omega
    clear w1 w2
    obtain ⟨v1, hv1⟩ : ∃ v : List Int, r.f1.take 2 = v := ⟨_, rfl⟩
    have hl1 : v1.length = 2 := by rw [← hv1]; simp only [List.length_drop, List.length_take]; omega
    have hcut1 : ∀ W : World, (Instr.slice 28 (.slice A9 r.f1.length c9) none (some (.int .i64 2)) none).run Try.prog W = .ok (.slice A9 v1.length c9) W := by
     intro W
     have h := cut_to (P := Try.prog) 28 5 .i64 Try.underlying28 hi5 A9 r.f1.length c9 2 (by decide) (by omega) HL9.out W
     rw [h, hl1]
     rfl
    have HC1 := Aside0.mk (show Kd.C (Kd.int .u8) wr A9 v1.length v1 from by have h := Kd.C_take (m := 2) HC9.out (by omega); rw [hv1] at h; exact h)
    have HM1 := Aside0.mk (show v1.length ≤ c9 by have := HL9.out; omega)
    obtain ⟨v2, hv2⟩ : ∃ v : List Int, (r.f1.take 4).drop 2 = v := ⟨_, rfl⟩
    have hl2 : v2.length = 2 := by rw [← hv2]; simp only [List.length_drop, List.length_take]; omega
    obtain ⟨Am2, hAm2⟩ : ∃ Am : Option Addr, (if c9 = 2 then A9 else A9.map (·.add (2 * 1))) = Am := ⟨_, rfl⟩
    have hcut2 : ∀ W : World, (Instr.slice 28 (.slice A9 r.f1.length c9) (some (.int .i64 2)) (some (.int .i64 4)) none).run Try.prog W = .ok (.slice Am2 v2.length (c9 - 2)) W := by
     intro W
     have h := cut_mid (P := Try.prog) 28 5 .i64 .i64 Try.underlying28 hi5 1 hsz5 A9 r.f1.length c9 2 4 (by decide) (by decide) (by omega) HL9.out W
     rw [h, hl2, ← hAm2]
     rfl
    have HC2 := Aside0.mk (show Kd.C (Kd.int .u8) wr Am2 v2.length v2 from by have h := Kd.C_mid (lo := 2) (hi := 4) (c := c9) HC9.out (by omega) (by omega) HL9.out; rw [hv2] at h; rw [← hAm2]; exact h)
    have HM2 := Aside0.mk (show v2.length ≤ c9 - 2 by have := HL9.out; omega)
    obtain ⟨v3, hv3⟩ : ∃ v : List Int, (r.f1.take 6).drop 4 = v := ⟨_, rfl⟩
    have hl3 : v3.length = 2 := by rw [← hv3]; simp only [List.length_drop, List.length_take]; omega
    obtain ⟨Am3, hAm3⟩ : ∃ Am : Option Addr, (if c9 = 4 then A9 else A9.map (·.add (4 * 1))) = Am := ⟨_, rfl⟩
    have hcut3 : ∀ W : World, (Instr.slice 28 (.slice A9 r.f1.length c9) (some (.int .i64 4)) (some (.int .i64 6)) none).run Try.prog W = .ok (.slice Am3 v3.length (c9 - 4)) W := by
     intro W
     have h := cut_mid (P := Try.prog) 28 5 .i64 .i64 Try.underlying28 hi5 1 hsz5 A9 r.f1.length c9 4 6 (by decide) (by decide) (by omega) HL9.out W
     rw [h, hl3, ← hAm3]
     rfl
    have HC3 := Aside0.mk (show Kd.C (Kd.int .u8) wr Am3 v3.length v3 from by have h := Kd.C_mid (lo := 4) (hi := 6) (c := c9) HC9.out (by omega) (by omega) HL9.out; rw [hv3] at h; rw [← hAm3]; exact h)
    have HM3 := Aside0.mk (show v3.length ≤ c9 - 4 by have := HL9.out; omega)
    obtain ⟨p1, hu1, hst⟩ := Option.bind_eq_some_iff.mp hst
    rw [hv1] at hu1
    have HU1 := Aside0.mk hu1
    clear hu1
    obtain ⟨p2, hu2, hst⟩ := Option.bind_eq_some_iff.mp hst
    rw [hv2] at hu2
    have HU2 := Aside0.mk hu2
    clear hu2
    obtain ⟨p3, hu3, hst⟩ := Option.bind_eq_some_iff.mp hst
    rw [hv3] at hu3
    have HU3 := Aside0.mk hu3
    clear hu3
    by_cases hN : a.ad.length < 5864062014805
    rotate_left
    ·rw [if_neg hN] at hst
     cases hst
    rw [if_pos hN] at hst
    obtain rfl := Option.some.inj hst
    have HN := Aside0.mk hN
    have hS0 : wr.cell? ⟨b8, 4, none⟩ = some (.slice Aa a.ad.length ca) := (blk_cell D.out.L 4).trans rfl
    clear hst hv1 hv2 hv3 hl1 hl2 hl3 hN
    by_cases hx : x = 0
    all_goals
     first | (have qx : (x == 0) = true := by simpa using hx) | (have qx : (x == 0) = false := by simpa using hx)
     clear hx
     go_wp2_with fail
     refine start_ (n := 19) (S := fun w' => w'.cell? ⟨b8, 4, none⟩ = some (.slice Aa a.ad.length ca)) (ds := [16 , 18]) #[false, false, false, false, false, false, false, false, false, false, false, false, false, false, false, false, false, false, false] (by kernel_rfl) rfl rfl hS0 (fun hHeld => ?_); refine with_tabW waypointref32_Decode.tab15 waypointref32_Decode.bits15 (fun HT_ HW_ => ?_)
     replace D := Aside0.mk (D.out.below (below_drew1 (Below.refl _ _)))
     replace HC1 := Aside0.mk (Kd.C_drew HC1.out)
     replace HC2 := Aside0.mk (Kd.C_drew HC2.out)
     replace HC3 := Aside0.mk (Kd.C_drew HC3.out)
     clear hS0
     generalize wr.drew = wd at D HC1 HC2 HC3 hHeld ⊢
     refine py 0 90 HT_ ?_
     refine py 2 92 HT_ ?_
     refine py 6 96 HT_ ?_
     refine py 10 100 HT_ ?_
     refine py 3 93 HT_ ?_
     refine py 7 97 HT_ ?_
     refine py 11 101 HT_ ?_
     refine ty 1 91 HT_ HW_ rfl (Or.inl ⟨by rfl, by rintro w' s0; go_simp; with_reducible rfl⟩) hHeld ?_
     clear hcut1 hcut2 hcut3
     refine one_ (i := 4) (N := some 94) #[true, true, true, true, true, false, true, true, false, false, true, true, false, false, false, false, false, false, false] rfl rfl (one_of HT_.out (by kernel_rfl)) (by decide) (fun K hK => ?_)
     refine goes_ Try.func43 (by kernel_rfl) rfl #[.slice A9 v1.length (c9)] (by rfl) rfl rfl (by (try simp only [List.map_toArray, List.map_cons, List.map_nil]); first | done | rfl | (simp only [List.length_drop, List.length_take]; rfl)) ?_
     refine (waypointref07_Uint.calls k A9 (c9) v1 p1 _ HC1.out HM1.out HU1.out).mono ?_
     rintro e wx ⟨rfl, hd⟩
     obtain ⟨⟨nq, rfl⟩⟩ := hd
     refine ⟨_, rfl, ?_⟩
     replace D := Aside0.mk (D.out.below (pw_below_drewN (Below.refl _ _) nq))
     replace HC2 := Aside0.mk (Kd.C_drewN HC2.out nq)
     replace HC3 := Aside0.mk (Kd.C_drewN HC3.out nq)
     refine hK.out _ _ hHeld (fun hHeld => ?_)
     clear hK K
     refine norm_ (a' := ?_) ?_ ?_
     rotate_left
     ·show Act.put _ (some 94) _ = _
      simp only [Act.put, List.setIfInBounds_toArray, List.set_cons_zero, List.set_cons_succ, i64_w, i32_w]
      rfl
     generalize World.drewN _ nq = wd at D HC2 HC3 hHeld ⊢
     refine py 5 95 HT_ ?_
     refine one_ (i := 8) (N := some 98) #[true, true, true, true, true, true, true, true, true, false, true, true, false, false, false, false, false, false, false] rfl rfl (one_of HT_.out (by kernel_rfl)) (by decide) (fun K hK => ?_)
     refine goes_ Try.func43 (by kernel_rfl) rfl #[.slice Am2 v2.length (c9 - 2)] (by rfl) rfl rfl (by (try simp only [List.map_toArray, List.map_cons, List.map_nil]); first | done | rfl | (simp only [List.length_drop, List.length_take]; rfl)) ?_
     refine (waypointref07_Uint.calls k Am2 (c9 - 2) v2 p2 _ HC2.out HM2.out HU2.out).mono ?_
     rintro e wx ⟨rfl, hd⟩
     obtain ⟨⟨nq, rfl⟩⟩ := hd
     refine ⟨_, rfl, ?_⟩
     replace D := Aside0.mk (D.out.below (pw_below_drewN (Below.refl _ _) nq))
     replace HC3 := Aside0.mk (Kd.C_drewN HC3.out nq)
     refine hK.out _ _ hHeld (fun hHeld => ?_)
     clear hK K
     refine norm_ (a' := ?_) ?_ ?_
     rotate_left
     ·show Act.put _ (some 98) _ = _
      simp only [Act.put, List.setIfInBounds_toArray, List.set_cons_zero, List.set_cons_succ, i64_w, i32_w]
      rfl
     generalize World.drewN _ nq = wd at D HC3 hHeld ⊢
     refine py 9 99 HT_ ?_
     refine one_ (i := 12) (N := some 102) #[true, true, true, true, true, true, true, true, true, true, true, true, true, false, false, false, false, false, false] rfl rfl (one_of HT_.out (by kernel_rfl)) (by decide) (fun K hK => ?_)
     refine goes_ Try.func43 (by kernel_rfl) rfl #[.slice Am3 v3.length (c9 - 4)] (by rfl) rfl rfl (by (try simp only [List.map_toArray, List.map_cons, List.map_nil]); first | done | rfl | (simp only [List.length_drop, List.length_take]; rfl)) ?_
     refine (waypointref07_Uint.calls k Am3 (c9 - 4) v3 p3 _ HC3.out HM3.out HU3.out).mono ?_
     rintro e wx ⟨rfl, hd⟩
     obtain ⟨⟨nq, rfl⟩⟩ := hd
     refine ⟨_, rfl, ?_⟩
     replace D := Aside0.mk (D.out.below (pw_below_drewN (Below.refl _ _) nq))
     refine hK.out _ _ hHeld (fun hHeld => ?_)
     clear hK K
     refine norm_ (a' := ?_) ?_ ?_
     rotate_left
     ·show Act.put _ (some 102) _ = _
      simp only [Act.put, List.setIfInBounds_toArray, List.set_cons_zero, List.set_cons_succ, i64_w, i32_w]
      rfl
     generalize World.drewN _ nq = wd at D  hHeld ⊢
     refine py 13 103 HT_ ?_
     refine py 14 104 HT_ ?_
     refine one_ (i := 15) (N := some 105) #[true, true, true, true, true, true, true, true, true, true, true, true, true, true, true, true, false, false, false] rfl rfl (one_of HT_.out (by kernel_rfl)) (by decide) (fun K hK => ?_)
     refine value_ (v := .slice (some ⟨wd.heap.size, 0, none⟩) 1 1) (w1 := wd.alloc (.cells [.int .i64 (wrap64 p1), .int .i64 (wrap64 p2), .int .i64 (wrap64 p3)].toArray 43)) (by rfl) rfl (by first | (go_simp; done) | (go_simp; rfl)) ?_
     refine hK.out _ _ ((blk_cell (blk_alloc D.out.L _) 4).trans rfl) (fun hHeld => ?_)
     clear hK K
     refine norm_ (a' := ?_) ?_ ?_
     rotate_left
     ·show Act.put _ (some 105) _ = _
      simp only [Act.put, List.setIfInBounds_toArray, List.set_cons_zero, List.set_cons_succ, i64_w, i32_w]
      rfl
     refine last_ (i := 16) (N := some 106) #[true, true, true, true, true, true, true, true, true, true, true, true, true, true, true, true, true, false, false] rfl rfl (one_of HT_.out (by kernel_rfl)) (by decide) (fun K hK => ?_)
     refine Kd.R_append_step k43 (w0 := w) w.heap.size (by rfl) (.tmp 91) (.tmp 105) 22 43 (.agg #[(.int .i64 0), (.int .i64 0), (.int .i64 0)]) 24 rfl Try.underlying22 info43 rfl (by decide) (by decide) (.slice Aa a.ad.length ca) a.ad ⟨wrap64 p1, wrap64 p2, wrap64 p3⟩ [.int .i64 (wrap64 p1), .int .i64 (wrap64 p2), .int .i64 (wrap64 p3)] (fun _ => True) (fun _ => False) rfl rfl (k43_mkM _ _ _ _) (fun _ h => h.elim) (fun _ _ => trivial) D.out.RA D.out.HB D.out.HB.size (by have := HN.out; omega) ?_
     intro v2 w2 hR2 hb2 hg2 hat2
     obtain ⟨A2, c2, rfl⟩ := Kd.R_slice hR2
     have L2 : LBk w2 b8 a (.slice Aa a.ad.length ca) (.slice Ap a.pf.length cp) := (hg2.block b8 (blk_lt D.out.L) (Kd.R_ne D.out.RA D.out.L (by decide))).trans D.out.L
     have hw2 : (a.ad ++ [(⟨wrap64 p1, wrap64 p2, wrap64 p3⟩ : AdT)]).length = a.ad.length + 1 := by simp
     have D2 := Aside0.mk (D.out.adj N28.out G8.out hg2 hb2 hR2)
     rw [hw2] at D2
     refine hK.out _ _ ?_
     clear hK K hg2 hb2 hR2 hat2
     refine norm_ (a' := ?_) ?_ ?_
     rotate_left
     ·show Act.put _ (some 106) _ = _
      simp only [Act.put, List.setIfInBounds_toArray, List.set_cons_zero, List.set_cons_succ, i64_w, i32_w]
      rfl
     refine py 17 107 HT_ ?_
     have c0 := (blk_cell L2 4).trans rfl
     have f0 := blk_frozen L2 4
     refine last_ (i := 18) (N := none) #[true, true, true, true, true, true, true, true, true, true, true, true, true, true, true, true, true, true, true] rfl rfl (one_of HT_.out (by kernel_rfl)) (by decide) (fun K hK => ?_)
     refine skip_ (w1 := ?_) (by rfl) rfl ?_ ?_
     rotate_left
     ·go_simp
      rfl
     refine hK.out _ _ ?_
     clear hK K c0 f0 L2
     refine done_ (done_of HT_.out (by kernel_rfl)) ?_
     clear HT_ HW_ hHeld
     go_wp2_with fail
     go_roundw
     case rel => exact ⟨x + 1, _, _, _, by rfl, ⟨by omega, by omega⟩, ⟨HS2.out⟩, D2⟩
     case measure => simp [intOf]; omega
   by_cases w3 : r.f0 = 3 ∧ r.f1.length = 5
   ·rw [rd32_step, if_neg w1, if_neg w2, if_pos w3] at hst
    have hlen : 5 ≤ r.f1.length ∧ r.f1.length ≤ 5 := by omega
    have qt1 : (r.f0 == 1) = false := by simp; omega
    have qt2 : (r.f0 == 2) = false := by simp; omega
    have qt : (r.f0 == 3) = true := by simpa using w3.1
    have ql : ((r.f1.length : Int) == 5) = true := by simp; omega
    have ql' : (r.f1.length == 5) = true := by simp; omega
    clear w1 w2 w3
    obtain ⟨v1, hv1⟩ : ∃ v : List Int, r.f1.take 4 = v := ⟨_, rfl⟩
    have hl1 : v1.length = 4 := by rw [← hv1]; simp only [List.length_drop, List.length_take]; omega
    have hcut1 : ∀ W : World, (Instr.slice 28 (.slice A9 r.f1.length c9) none (some (.int .i64 4)) none).run Try.prog W = .ok (.slice A9 v1.length c9) W := by
     intro W
     have h := cut_to (P := Try.prog) 28 5 .i64 Try.underlying28 hi5 A9 r.f1.length c9 4 (by decide) (by omega) HL9.out W
     rw [h, hl1]
     rfl
    have HC1 := Aside0.mk (show Kd.C (Kd.int .u8) wr A9 v1.length v1 from by have h := Kd.C_take (m := 4) HC9.out (by omega); rw [hv1] at h; exact h)
    have HM1 := Aside0.mk (show v1.length ≤ c9 by have := HL9.out; omega)
    obtain ⟨p1, hu1, hst⟩ := Option.bind_eq_some_iff.mp hst
    rw [hv1] at hu1
    have HU1 := Aside0.mk hu1
    clear hu1
    by_cases hb4 : 0 ≤ rd r.f1 4 ∧ rd r.f1 4 ≤ 255
    rotate_left
    ·rw [if_neg hb4] at hst
     cases hst
    rw [if_pos hb4] at hst
    by_cases hN : a.pf.length < 8796093022208
    rotate_left
    ·rw [if_neg hN] at hst
     cases hst
    rw [if_pos hN] at hst
    obtain rfl := Option.some.inj hst
    have HN := Aside0.mk hN
    have hw4 := Aside0.mk (show wrap64 (rd r.f1 4) = rd r.f1 4 by unfold wrap64; omega)
    obtain ⟨ad9, hA9, hv4⟩ := Kd.at_int HC9.out 4 (by omega) (by omega)
    subst hA9
    have hS0 : wr.cell? ⟨b8, 5, none⟩ = some (.slice Ap a.pf.length cp) ∧ wr.cell? ⟨ad9.block, ad9.off + 4, none⟩ = some (.int .u8 (rd r.f1 4)) := ⟨(blk_cell D.out.L 5).trans rfl, hv4⟩
    have i4 : (4 : Int) < r.f1.length := by omega
    have i4' : (0 : Int) ≤ 4 := by decide
    clear hst hv1 hl1 hN hv4 hb4
    by_cases hx : x = 0
    all_goals
     first | (have qx : (x == 0) = true := by simpa using hx) | (have qx : (x == 0) = false := by simpa using hx)
     clear hx
     go_wp2_with fail
     refine start_ (n := 15) (S := fun w' => w'.cell? ⟨b8, 5, none⟩ = some (.slice Ap a.pf.length cp) ∧ w'.cell? ⟨ad9.block, ad9.off + 4, none⟩ = some (.int .u8 (rd r.f1 4))) (ds := [12, 14]) #[false, false, false, false, false, false, false, false, false, false, false, false, false, false, false] (by kernel_rfl) rfl rfl hS0 (fun hHeld => ?_); refine with_tabW waypointref32_Decode.tab17 waypointref32_Decode.bits17 (fun HT_ HW_ => ?_)
     replace D := Aside0.mk (D.out.below (below_drew1 (Below.refl _ _)))
     replace HC1 := Aside0.mk (Kd.C_drew HC1.out)
     clear hS0
     generalize wr.drew = wd at D HC1 hHeld ⊢
     refine py 0 120 HT_ ?_
     refine py 2 122 HT_ ?_
     refine py 6 126 HT_ ?_
     refine py 3 123 HT_ ?_
     refine ty 1 121 HT_ HW_ rfl (Or.inl ⟨by rfl, by rintro w' ⟨s0, s1⟩; go_simp; with_reducible rfl⟩) hHeld ?_
     refine ty 7 127 HT_ HW_ rfl (Or.inl ⟨by rfl, by rintro w' ⟨s0, s1⟩; go_simp; with_reducible rfl⟩) hHeld ?_
     refine ty 8 128 HT_ HW_ rfl (Or.inl ⟨by rfl, by rintro w' ⟨s0, s1⟩; go_simp; with_reducible rfl⟩) hHeld ?_
     refine py 9 129 HT_ ?_
     rw [hw4.out]
     clear hcut1
     refine one_ (i := 4) (N := some 124) #[true, true, true, true, true, false, true, true, true, true, false, false, false, false, false] rfl rfl (one_of HT_.out (by kernel_rfl)) (by decide) (fun K hK => ?_)
     refine goes_ Try.func43 (by kernel_rfl) rfl #[.slice (some ad9) v1.length (c9)] (by rfl) rfl rfl (by (try simp only [List.map_toArray, List.map_cons, List.map_nil]); first | done | rfl | (simp only [List.length_drop, List.length_take]; rfl)) ?_
     refine (waypointref07_Uint.calls k (some ad9) (c9) v1 p1 _ HC1.out HM1.out HU1.out).mono ?_
     rintro e wx ⟨rfl, hd⟩
     obtain ⟨⟨nq, rfl⟩⟩ := hd
     refine ⟨_, rfl, ?_⟩
     replace D := Aside0.mk (D.out.below (pw_below_drewN (Below.refl _ _) nq))
     refine hK.out _ _ hHeld (fun hHeld => ?_)
     clear hK K
     refine norm_ (a' := ?_) ?_ ?_
     rotate_left
     ·show Act.put _ (some 124) _ = _
      simp only [Act.put, List.setIfInBounds_toArray, List.set_cons_zero, List.set_cons_succ, i64_w, i32_w]
      rfl
     generalize World.drewN _ nq = wd at D  hHeld ⊢
     refine py 5 125 HT_ ?_
     refine py 10 130 HT_ ?_
     refine one_ (i := 11) (N := some 131) #[true, true, true, true, true, true, true, true, true, true, true, true, false, false, false] rfl rfl (one_of HT_.out (by kernel_rfl)) (by decide) (fun K hK => ?_)
     refine value_ (v := .slice (some ⟨wd.heap.size, 0, none⟩) 1 1) (w1 := wd.alloc (.cells [.int .u32 (IntKind.u32.wrap p1), .int .i64 (rd r.f1 4)].toArray 56)) (by rfl) rfl (by first | (go_simp; done) | (go_simp; rfl)) ?_
     refine hK.out _ _ ⟨(blk_cell (blk_alloc D.out.L _) 5).trans rfl, ca_ hHeld.2 _⟩ (fun hHeld => ?_)
     clear hK K
     refine norm_ (a' := ?_) ?_ ?_
     rotate_left
     ·show Act.put _ (some 131) _ = _
      simp only [Act.put, List.setIfInBounds_toArray, List.set_cons_zero, List.set_cons_succ, i64_w, i32_w]
      rfl
     refine last_ (i := 12) (N := some 132) #[true, true, true, true, true, true, true, true, true, true, true, true, true, false, false] rfl rfl (one_of HT_.out (by kernel_rfl)) (by decide) (fun K hK => ?_)
     refine Kd.R_append_step k56 (w0 := w) w.heap.size (by rfl) (.tmp 121) (.tmp 131) 23 56 (.agg #[(.int .u32 0), (.int .i64 0)]) 16 rfl Try.underlying23 info56 rfl (by decide) (by decide) (.slice Ap a.pf.length cp) a.pf ⟨IntKind.u32.wrap p1, rd r.f1 4⟩ [.int .u32 (IntKind.u32.wrap p1), .int .i64 (rd r.f1 4)] (fun _ => True) (fun _ => False) rfl rfl (k56_mkM _ _ _ _) (fun _ h => h.elim) (fun _ _ => trivial) D.out.RP D.out.HB D.out.HB.size (by have := HN.out; omega) ?_
     intro v2 w2 hR2 hb2 hg2 hat2
     obtain ⟨A2, c2, rfl⟩ := Kd.R_slice hR2
     have L2 : LBk w2 b8 a (.slice Aa a.ad.length ca) (.slice Ap a.pf.length cp) := (hg2.block b8 (blk_lt D.out.L) (Kd.R_ne D.out.RP D.out.L (by decide))).trans D.out.L
     have hw2 : (a.pf ++ [(⟨IntKind.u32.wrap p1, rd r.f1 4⟩ : PfT)]).length = a.pf.length + 1 := by simp
     have D2 := Aside0.mk (D.out.pre N28.out G8.out hg2 hb2 hR2)
     rw [hw2] at D2
     refine hK.out _ _ ?_
     clear hK K hg2 hb2 hR2 hat2
     refine norm_ (a' := ?_) ?_ ?_
     rotate_left
     ·show Act.put _ (some 132) _ = _
      simp only [Act.put, List.setIfInBounds_toArray, List.set_cons_zero, List.set_cons_succ, i64_w, i32_w]
      rfl
     refine py 13 133 HT_ ?_
     have c0 := (blk_cell L2 5).trans rfl
     have f0 := blk_frozen L2 5
     refine last_ (i := 14) (N := none) #[true, true, true, true, true, true, true, true, true, true, true, true, true, true, true] rfl rfl (one_of HT_.out (by kernel_rfl)) (by decide) (fun K hK => ?_)
     refine skip_ (w1 := ?_) (by rfl) rfl ?_ ?_
     rotate_left
     ·go_simp
      rfl
     refine hK.out _ _ ?_
     clear hK K c0 f0 L2
     refine done_ (done_of HT_.out (by kernel_rfl)) ?_
     clear HT_ HW_ hHeld
     go_wp2_with fail
     go_roundw
     case rel => exact ⟨x + 1, _, _, _, by rfl, ⟨by omega, by omega⟩, ⟨HS2.out⟩, D2⟩
     case measure => simp [intOf]; omega
   ·rw [rd32_step, if_neg w1, if_neg w2, if_neg w3] at hst
    obtain rfl := Option.some.inj hst
    clear hst
    by_cases hx : x = 0 <;> by_cases h1 : r.f0 = 1 <;> by_cases h2 : r.f0 = 2 <;> by_cases h3 : r.f0 = 3 <;> by_cases h9 : (r.f1.length : Int) = 9 <;> by_cases h6 : (r.f1.length : Int) = 6 <;> by_cases h5 : (r.f1.length : Int) = 5 <;> (first | (exfalso; omega) | skip)
    all_goals
     first | (have qx : (x == 0) = true := by simpa using hx) | (have qx : (x == 0) = false := by simpa using hx)
     first | (have qt1 : (r.f0 == 1) = true := by simpa using h1) | (have qt1 : (r.f0 == 1) = false := by simpa using h1)
     first | (have qt2 : (r.f0 == 2) = true := by simpa using h2) | (have qt2 : (r.f0 == 2) = false := by simpa using h2)
     first | (have qt3 : (r.f0 == 3) = true := by simpa using h3) | (have qt3 : (r.f0 == 3) = false := by simpa using h3)
     first | (have q9 : ((r.f1.length : Int) == 9) = true := by simp; omega) | (have q9 : ((r.f1.length : Int) == 9) = false := by simp; omega)
     first | (have q6 : ((r.f1.length : Int) == 6) = true := by simp; omega) | (have q6 : ((r.f1.length : Int) == 6) = false := by simp; omega)
     first | (have q5 : ((r.f1.length : Int) == 5) = true := by simp; omega) | (have q5 : ((r.f1.length : Int) == 5) = false := by simp; omega)
     first | (have q9' : (r.f1.length == 9) = true := by simp; omega) | (have q9' : (r.f1.length == 9) = false := by simp; omega)
     first | (have q6' : (r.f1.length == 6) = true := by simp; omega) | (have q6' : (r.f1.length == 6) = false := by simp; omega)
     first | (have q5' : (r.f1.length == 5) = true := by simp; omega) | (have q5' : (r.f1.length == 5) = false := by simp; omega)
     clear hx h1 h2 h3 h9 h6 h5 w1 w2 w3
     go_wp2_with fail
     go_roundw
     case rel => exact ⟨x + 1, _, _, _, by rfl, ⟨by omega, by omega⟩, ⟨HS2.out⟩, D⟩
     case measure => simp [intOf]; omega
  ·have hx : x.toNat = l.length := by omega
   have hs := HS.out
   rw [hx, List.drop_length] at hs
   obtain rfl := Option.some.inj (show some a = some q from hs)
   have CA := Aside0.mk (Kd.R_reads' D.out.RA).2
   have CP := Aside0.mk (Kd.R_reads' D.out.RP).2
   clear hs HS hx
   obtain ⟨vb, hvb⟩ : ∃ v : Value, Value.slice A0 l0.length c0 = v := ⟨_, rfl⟩
   have HCV := Aside0.mk (show ∀ W : World, Kd.C (Kd.int .u8) W A0 l0.length l0 → (convert 28 9 vb).run Try.prog W = .ok (.string (strOfNums l0)) W from fun W h => by
    rw [← hvb]
    exact Kd.C_string Try.underlying28 Try.underlying5 Try.underlying9 h)
   rw [hvb]
   clear hvb
   have hS0 : wr.cell? ⟨b8, 0, none⟩ = some (.int .i64 a.o) ∧ wr.cell? ⟨b8, 1, none⟩ = some (.int .i64 a.s) ∧ wr.cell? ⟨b8, 2, none⟩ = some (.int .i64 a.age) ∧ wr.cell? ⟨b8, 3, none⟩ = some (.bool a.ov) ∧ wr.cell? ⟨b8, 4, none⟩ = some (.slice Aa a.ad.length ca) ∧ wr.cell? ⟨b8, 5, none⟩ = some (.slice Ap a.pf.length cp) ∧ (convert 28 9 vb).run Try.prog wr.drew = .ok (.string (strOfNums l0)) wr.drew := ⟨(blk_cell D.out.L 0).trans rfl, (blk_cell D.out.L 1).trans rfl, (blk_cell D.out.L 2).trans rfl, (blk_cell D.out.L 3).trans rfl, (blk_cell D.out.L 4).trans rfl, (blk_cell D.out.L 5).trans rfl, HCV.out _ (Kd.C_drew (Kd.C_below HR0.out D.out.HB))⟩
   go_wp2_with fail
   refine start_ (n := 11) (S := fun w' => w'.cell? ⟨b8, 0, none⟩ = some (.int .i64 a.o) ∧ w'.cell? ⟨b8, 1, none⟩ = some (.int .i64 a.s) ∧ w'.cell? ⟨b8, 2, none⟩ = some (.int .i64 a.age) ∧ w'.cell? ⟨b8, 3, none⟩ = some (.bool a.ov) ∧ w'.cell? ⟨b8, 4, none⟩ = some (.slice Aa a.ad.length ca) ∧ w'.cell? ⟨b8, 5, none⟩ = some (.slice Ap a.pf.length cp) ∧ (convert 28 9 vb).run Try.prog w' = .ok (.string (strOfNums l0)) w') (ds := []) #[false, false, false, false, false, false, false, false, false, false, false] (by kernel_rfl) rfl rfl hS0 (fun hHeld => ?_); refine with_tabW waypointref32_Decode.tab18 waypointref32_Decode.bits18 (fun HT_ HW_ => ?_)
   replace D := Aside0.mk (D.out.below (below_drew1 (Below.refl _ _)))
   replace CA := Aside0.mk (show _ ∧ _ from ⟨CA.out.1, Kd.C_drew CA.out.2⟩)
   replace CP := Aside0.mk (show _ ∧ _ from ⟨CP.out.1, Kd.C_drew CP.out.2⟩)
   clear hS0
   generalize wr.drew = wd at D CA CP hHeld ⊢
   refine ty 0 134 HT_ HW_ rfl (Or.inl ⟨by rfl, by rintro w' ⟨s0, s1, s2, s3, s4, s5, s6⟩; go_simp; with_reducible rfl⟩) hHeld ?_
   refine one_ (i := 1) (N := some 135) #[true, true, false, false, false, false, false, false, false, false, false] rfl rfl (one_of HT_.out (by kernel_rfl)) (by decide) (fun K hK => ?_)
   refine goes_ Try.func15 (by kernel_rfl) rfl #[.agg #[.int .i64 a.o, .int .i64 a.s, .int .i64 a.age, .bool a.ov, .slice Aa a.ad.length ca, .slice Ap a.pf.length cp]] (by rfl) rfl rfl (by (try simp only [List.map_toArray, List.map_cons, List.map_nil]); first | done | rfl | (simp only [List.length_drop, List.length_take]; rfl)) ?_
   refine (waypointref32_Valid.calls k a.o a.s a.age a.ov Aa ca a.ad Ap cp a.pf v wd CA.out.2 CA.out.1 CP.out.2 CP.out.1 HV.out).mono ?_
   rintro e wx ⟨rfl, hb⟩
   refine ⟨_, rfl, ?_⟩
   replace D := Aside0.mk (D.out.below hb)
   replace CA := Aside0.mk (show _ ∧ _ from ⟨CA.out.1, Kd.C_below CA.out.2 hb⟩)
   replace CP := Aside0.mk (show _ ∧ _ from ⟨CP.out.1, Kd.C_below CP.out.2 hb⟩)
   refine hK.out _ _ ⟨(blk_cell D.out.L 0).trans rfl, (blk_cell D.out.L 1).trans rfl, (blk_cell D.out.L 2).trans rfl, (blk_cell D.out.L 3).trans rfl, (blk_cell D.out.L 4).trans rfl, (blk_cell D.out.L 5).trans rfl, HCV.out _ (Kd.C_below HR0.out D.out.HB)⟩ (fun hHeld => ?_)
   clear hK K hb
   refine norm_ (a' := ?_) ?_ ?_
   rotate_left
   ·show Act.put _ (some 135) _ = _
    simp only [Act.put, List.setIfInBounds_toArray, List.set_cons_zero, List.set_cons_succ, i64_w, i32_w]
    rfl
   refine py 2 136 HT_ ?_
   refine py 3 137 HT_ ?_
   have hz := HZ.out
   cases v with
   | false =>
    simp only [Bool.false_eq_true, if_false, lsaNo, Option.some.injEq, Prod.mk.injEq] at hz
    obtain ⟨rfl, rfl, rfl, rfl, rfl, rfl, rfl⟩ := hz
    clear HZ
    refine pu 4 138 HT_ ?_
    refine pu 5 139 HT_ ?_
    refine pu 6 140 HT_ ?_
    refine pu 7 141 HT_ ?_
    refine pu 8 142 HT_ ?_
    refine pu 9 143 HT_ ?_
    refine py 10 144 HT_ ?_
    refine done_ (done_of HT_.out (by kernel_rfl)) ?_
    clear HT_ HW_ hHeld
    have B2 := Aside0.mk D.out.B2
    have x0 : wx.cell? ⟨b2, 0, none⟩ = some (.int .i64 0) := (blk_cell B2.out 0).trans rfl; have xf0 := blk_frozen B2.out 0; have x1 : wx.cell? ⟨b2, 1, none⟩ = some (.int .i64 0) := (blk_cell B2.out 1).trans rfl; have xf1 := blk_frozen B2.out 1; have x2 : wx.cell? ⟨b2, 2, none⟩ = some (.int .i64 0) := (blk_cell B2.out 2).trans rfl; have xf2 := blk_frozen B2.out 2; have x3 : wx.cell? ⟨b2, 3, none⟩ = some (.bool false) := (blk_cell B2.out 3).trans rfl; have xf3 := blk_frozen B2.out 3; have x4 : wx.cell? ⟨b2, 4, none⟩ = some (.slice none 0 0) := (blk_cell B2.out 4).trans rfl; have xf4 := blk_frozen B2.out 4; have x5 : wx.cell? ⟨b2, 5, none⟩ = some (.slice none 0 0) := (blk_cell B2.out 5).trans rfl; have xf5 := blk_frozen B2.out 5
    go_wp2_with fail
    refine bodyPost_ret (results_ct rfl _ _ b2 25 #[.int .i64 0, .int .i64 0, .int .i64 0, .bool false, .slice none 0 0, .slice none 0 0] (0, 0) _ rfl (blk_put (cs' := #[.int .i64 0, .int .i64 0, .int .i64 0, .bool false, .slice none 0 0, .slice none 0 0]) (blk_put (cs' := #[.int .i64 0, .int .i64 0, .int .i64 0, .bool false, .slice none 0 0, .slice none 0 0]) (blk_put (cs' := #[.int .i64 0, .int .i64 0, .int .i64 0, .bool false, .slice none 0 0, .slice none 0 0]) (blk_put (cs' := #[.int .i64 0, .int .i64 0, .int .i64 0, .bool false, .slice none 0 0, .slice none 0 0]) (blk_put (cs' := #[.int .i64 0, .int .i64 0, .int .i64 0, .bool false, .slice none 0 0, .slice none 0 0]) (blk_put (cs' := #[.int .i64 0, .int .i64 0, .int .i64 0, .bool false, .slice none 0 0, .slice none 0 0]) B2.out 0 (.int .i64 0) rfl) 1 (.int .i64 0) rfl) 2 (.int .i64 0) rfl) 3 (.bool false) rfl) 4 (.slice none 0 0) rfl) 5 (.slice none 0 0) rfl) Try.underlying25 rfl (by kernel_rfl)) rfl ?_
    exact ⟨_, _, rfl, Kd.R_nil _ _ _ _ _, Kd.R_nil _ _ _ _ _, (below_set (below_set (below_set (below_set (below_set (below_set D.out.HB G2.out (j := 0) (v := .int .i64 0)) G2.out (j := 1) (v := .int .i64 0)) G2.out (j := 2) (v := .int .i64 0)) G2.out (j := 3) (v := .bool false)) G2.out (j := 4) (v := .slice none 0 0)) G2.out (j := 5) (v := .slice none 0 0))⟩
   | true =>
    simp only [if_true] at hz
    obtain ⟨u, henc, hz⟩ := Option.bind_eq_some_iff.mp hz
    have HENC := Aside0.mk henc
    have HZ2 := Aside0.mk hz
    clear hz henc HZ
    refine py 7 141 HT_ ?_
    refine ty 8 142 HT_ HW_ rfl (Or.inl ⟨by rfl, by rintro w' ⟨s0, s1, s2, s3, s4, s5, s6⟩; go_simp; with_reducible rfl⟩) hHeld ?_
    refine ty 4 138 HT_ HW_ rfl (Or.inl ⟨by rfl, by rintro w' ⟨s0, s1, s2, s3, s4, s5, s6⟩; go_simp; with_reducible rfl⟩) hHeld ?_
    refine one_ (i := 5) (N := some 139) #[true, true, true, true, true, true, false, true, true, false, false] rfl rfl (one_of HT_.out (by kernel_rfl)) (by decide) (fun K hK => ?_)
    refine goes_ Try.func17 (by kernel_rfl) rfl #[.agg #[.int .i64 a.o, .int .i64 a.s, .int .i64 a.age, .bool a.ov, .slice Aa a.ad.length ca, .slice Ap a.pf.length cp]] (by rfl) rfl rfl (by (try simp only [List.map_toArray, List.map_cons, List.map_nil]); first | done | rfl | (simp only [List.length_drop, List.length_take]; rfl)) ?_
    refine (waypointref32_Encode.calls k a.o a.s a.age a.ov Aa ca a.ad Ap cp a.pf u wx CA.out.2 CA.out.1 CP.out.2 CP.out.1 HENC.out).mono ?_
    rintro e wy ⟨v6, rfl, hR6, hb⟩
    refine ⟨_, rfl, ?_⟩
    replace D := Aside0.mk (D.out.below hb)
    have HCV6 := own_string (P := Try.prog) Try.underlying28 Try.underlying5 Try.underlying9 (Kd.own_of_R hR6)
    refine hK.out _ _ ⟨(blk_cell D.out.L 0).trans rfl, (blk_cell D.out.L 1).trans rfl, (blk_cell D.out.L 2).trans rfl, (blk_cell D.out.L 3).trans rfl, (blk_cell D.out.L 4).trans rfl, (blk_cell D.out.L 5).trans rfl, HCV.out _ (Kd.C_below HR0.out D.out.HB)⟩ (fun hHeld => ?_)
    clear hK K hb hR6 CA CP
    refine norm_ (a' := ?_) ?_ ?_
    rotate_left
    ·show Act.put _ (some 139) _ = _
     simp only [Act.put, List.setIfInBounds_toArray, List.set_cons_zero, List.set_cons_succ, i64_w, i32_w]
     rfl
    refine one_ (i := 6) (N := some 140) #[true, true, true, true, true, true, true, true, true, false, false] rfl rfl (one_of HT_.out (by kernel_rfl)) (by decide) (fun K hK => ?_)
    refine value_ (w1 := ?_) (v := ?_) (by rfl) rfl ?_ ?_
    rotate_left 2
    ·go_simp
     constructor
     ·rfl
     ·rfl
    clear HCV6
    refine hK.out _ _ hHeld (fun hHeld => ?_)
    clear hK K
    refine norm_ (a' := ?_) ?_ ?_
    rotate_left
    ·show Act.put _ (some 140) _ = _
     simp only [Act.put, List.setIfInBounds_toArray, List.set_cons_zero, List.set_cons_succ, i64_w, i32_w]
     rfl
    have hz := HZ2.out
    by_cases hq : (strOfNums u).toList = (strOfNums l0).toList
    ·rw [if_pos hq] at hz
     simp only [Option.some.injEq, Prod.mk.injEq] at hz
     obtain ⟨rfl, rfl, rfl, rfl, rfl, rfl, rfl⟩ := hz
     have q1 : ((strOfNums u).toList == (strOfNums l0).toList) = true := beq_iff_eq.mpr hq
     have q2 : ((strOfNums u).toList != (strOfNums l0).toList) = false := bne_eq_false_iff_eq.mpr hq
     clear hq HZ2
     refine py 9 143 HT_ ?_
     refine py 10 144 HT_ ?_
     refine done_ (done_of HT_.out (by kernel_rfl)) ?_
     clear HT_ HW_ hHeld
     have B2 := Aside0.mk D.out.B2
     have B8 := Aside0.mk (show wy.heap[b8]? = some (.cells #[.int .i64 a.o, .int .i64 a.s, .int .i64 a.age, .bool a.ov, .slice Aa a.ad.length ca, .slice Ap a.pf.length cp] 25 (0, 0)) from D.out.L)
     have x0 : wy.cell? ⟨b2, 0, none⟩ = some (.int .i64 0) := (blk_cell B2.out 0).trans rfl; have xf0 := blk_frozen B2.out 0; have x1 : wy.cell? ⟨b2, 1, none⟩ = some (.int .i64 0) := (blk_cell B2.out 1).trans rfl; have xf1 := blk_frozen B2.out 1; have x2 : wy.cell? ⟨b2, 2, none⟩ = some (.int .i64 0) := (blk_cell B2.out 2).trans rfl; have xf2 := blk_frozen B2.out 2; have x3 : wy.cell? ⟨b2, 3, none⟩ = some (.bool false) := (blk_cell B2.out 3).trans rfl; have xf3 := blk_frozen B2.out 3; have x4 : wy.cell? ⟨b2, 4, none⟩ = some (.slice none 0 0) := (blk_cell B2.out 4).trans rfl; have xf4 := blk_frozen B2.out 4; have x5 : wy.cell? ⟨b2, 5, none⟩ = some (.slice none 0 0) := (blk_cell B2.out 5).trans rfl; have xf5 := blk_frozen B2.out 5
     have y0 : wy.cell? ⟨b8, 0, none⟩ = some (.int .i64 a.o) := (blk_cell B8.out 0).trans rfl; have yf0 := blk_frozen B8.out 0; have y1 : wy.cell? ⟨b8, 1, none⟩ = some (.int .i64 a.s) := (blk_cell B8.out 1).trans rfl; have yf1 := blk_frozen B8.out 1; have y2 : wy.cell? ⟨b8, 2, none⟩ = some (.int .i64 a.age) := (blk_cell B8.out 2).trans rfl; have yf2 := blk_frozen B8.out 2; have y3 : wy.cell? ⟨b8, 3, none⟩ = some (.bool a.ov) := (blk_cell B8.out 3).trans rfl; have yf3 := blk_frozen B8.out 3; have y4 : wy.cell? ⟨b8, 4, none⟩ = some (.slice Aa a.ad.length ca) := (blk_cell B8.out 4).trans rfl; have yf4 := blk_frozen B8.out 4; have y5 : wy.cell? ⟨b8, 5, none⟩ = some (.slice Ap a.pf.length cp) := (blk_cell B8.out 5).trans rfl; have yf5 := blk_frozen B8.out 5
     go_wp2_with fail
     have N0 := blk_put (cs' := #[.int .i64 a.o, .int .i64 0, .int .i64 0, .bool false, .slice none 0 0, .slice none 0 0]) B2.out 0 (.int .i64 a.o) rfl
     have N1 := blk_put (cs' := #[.int .i64 a.o, .int .i64 a.s, .int .i64 0, .bool false, .slice none 0 0, .slice none 0 0]) N0 1 (.int .i64 a.s) rfl
     have N2 := blk_put (cs' := #[.int .i64 a.o, .int .i64 a.s, .int .i64 a.age, .bool false, .slice none 0 0, .slice none 0 0]) N1 2 (.int .i64 a.age) rfl
     have N3 := blk_put (cs' := #[.int .i64 a.o, .int .i64 a.s, .int .i64 a.age, .bool a.ov, .slice none 0 0, .slice none 0 0]) N2 3 (.bool a.ov) rfl
     have N4 := blk_put (cs' := #[.int .i64 a.o, .int .i64 a.s, .int .i64 a.age, .bool a.ov, .slice Aa a.ad.length ca, .slice none 0 0]) N3 4 (.slice Aa a.ad.length ca) rfl
     have N5 := blk_put (cs' := #[.int .i64 a.o, .int .i64 a.s, .int .i64 a.age, .bool a.ov, .slice Aa a.ad.length ca, .slice Ap a.pf.length cp]) N4 5 (.slice Ap a.pf.length cp) rfl
     refine bodyPost_ret (results_ct rfl _ _ b2 25 #[.int .i64 a.o, .int .i64 a.s, .int .i64 a.age, .bool a.ov, .slice Aa a.ad.length ca, .slice Ap a.pf.length cp] (0, 0) _ rfl N5 Try.underlying25 rfl (by kernel_rfl)) rfl ?_
     exact ⟨_, _, rfl, (Kd.R_set (Kd.R_set (Kd.R_set (Kd.R_set (Kd.R_set (Kd.R_set D.out.RA B2.out (by decide) _ _) N0 (by decide) _ _) N1 (by decide) _ _) N2 (by decide) _ _) N3 (by decide) _ _) N4 (by decide) _ _), (Kd.R_set (Kd.R_set (Kd.R_set (Kd.R_set (Kd.R_set (Kd.R_set D.out.RP B2.out (by decide) _ _) N0 (by decide) _ _) N1 (by decide) _ _) N2 (by decide) _ _) N3 (by decide) _ _) N4 (by decide) _ _), (below_set (below_set (below_set (below_set (below_set (below_set D.out.HB G2.out (j := 0) (v := .int .i64 a.o)) G2.out (j := 1) (v := .int .i64 a.s)) G2.out (j := 2) (v := .int .i64 a.age)) G2.out (j := 3) (v := .bool a.ov)) G2.out (j := 4) (v := .slice Aa a.ad.length ca)) G2.out (j := 5) (v := .slice Ap a.pf.length cp))⟩
    ·rw [if_neg hq] at hz
     simp only [lsaNo, Option.some.injEq, Prod.mk.injEq] at hz
     obtain ⟨rfl, rfl, rfl, rfl, rfl, rfl, rfl⟩ := hz
     have q1 : ((strOfNums u).toList == (strOfNums l0).toList) = false := beq_eq_false_iff_ne.mpr hq
     have q2 : ((strOfNums u).toList != (strOfNums l0).toList) = true := bne_iff_ne.mpr hq
     clear hq HZ2
     refine py 9 143 HT_ ?_
     refine py 10 144 HT_ ?_
     refine done_ (done_of HT_.out (by kernel_rfl)) ?_
     clear HT_ HW_ hHeld
     have B2 := Aside0.mk D.out.B2
     have x0 : wy.cell? ⟨b2, 0, none⟩ = some (.int .i64 0) := (blk_cell B2.out 0).trans rfl; have xf0 := blk_frozen B2.out 0; have x1 : wy.cell? ⟨b2, 1, none⟩ = some (.int .i64 0) := (blk_cell B2.out 1).trans rfl; have xf1 := blk_frozen B2.out 1; have x2 : wy.cell? ⟨b2, 2, none⟩ = some (.int .i64 0) := (blk_cell B2.out 2).trans rfl; have xf2 := blk_frozen B2.out 2; have x3 : wy.cell? ⟨b2, 3, none⟩ = some (.bool false) := (blk_cell B2.out 3).trans rfl; have xf3 := blk_frozen B2.out 3; have x4 : wy.cell? ⟨b2, 4, none⟩ = some (.slice none 0 0) := (blk_cell B2.out 4).trans rfl; have xf4 := blk_frozen B2.out 4; have x5 : wy.cell? ⟨b2, 5, none⟩ = some (.slice none 0 0) := (blk_cell B2.out 5).trans rfl; have xf5 := blk_frozen B2.out 5
     go_wp2_with fail
     refine bodyPost_ret (results_ct rfl _ _ b2 25 #[.int .i64 0, .int .i64 0, .int .i64 0, .bool false, .slice none 0 0, .slice none 0 0] (0, 0) _ rfl (blk_put (cs' := #[.int .i64 0, .int .i64 0, .int .i64 0, .bool false, .slice none 0 0, .slice none 0 0]) (blk_put (cs' := #[.int .i64 0, .int .i64 0, .int .i64 0, .bool false, .slice none 0 0, .slice none 0 0]) (blk_put (cs' := #[.int .i64 0, .int .i64 0, .int .i64 0, .bool false, .slice none 0 0, .slice none 0 0]) (blk_put (cs' := #[.int .i64 0, .int .i64 0, .int .i64 0, .bool false, .slice none 0 0, .slice none 0 0]) (blk_put (cs' := #[.int .i64 0, .int .i64 0, .int .i64 0, .bool false, .slice none 0 0, .slice none 0 0]) (blk_put (cs' := #[.int .i64 0, .int .i64 0, .int .i64 0, .bool false, .slice none 0 0, .slice none 0 0]) B2.out 0 (.int .i64 0) rfl) 1 (.int .i64 0) rfl) 2 (.int .i64 0) rfl) 3 (.bool false) rfl) 4 (.slice none 0 0) rfl) 5 (.slice none 0 0) rfl) Try.underlying25 rfl (by kernel_rfl)) rfl ?_
     exact ⟨_, _, rfl, Kd.R_nil _ _ _ _ _, Kd.R_nil _ _ _ _ _, (below_set (below_set (below_set (below_set (below_set (below_set D.out.HB G2.out (j := 0) (v := .int .i64 0)) G2.out (j := 1) (v := .int .i64 0)) G2.out (j := 2) (v := .int .i64 0)) G2.out (j := 3) (v := .bool false)) G2.out (j := 4) (v := .slice none 0 0)) G2.out (j := 5) (v := .slice none 0 0))⟩
set_option maxHeartbeats 8000000 in
set_option maxRecDepth 100000 in
theorem rd32_sum (k : Nat) (A0 : Option Addr) (c0 : Nat) (l0 : List Int) (w : World) (hr0 : Kd.C (Kd.int .u8) w A0 l0.length l0) (hc0 : l0.length ≤ c0) (x y : Int) (h : waypointref08_Sum.f k l0 = some (x, y)) (hn : ¬ (x = 0 ∧ y = 0)) :
  Calls Try.prog 20 #[.slice A0 l0.length c0] w (LPost w 0 0 0 false [] [] 5) := by
 have hu := Try.underlying25
 have HH := Aside0.mk h
 have HR0 := Aside0.mk hr0
 have HC0 := Aside0.mk hc0
 clear h hr0 hc0
 by_cases hx : x = 0
 ·have hy : y ≠ 0 := fun e => hn ⟨hx, e⟩
  have qx : (x != 0) = false := by simpa using hx
  have qy : (y != 0) = true := by simpa using hy
  clear hn hx hy
  go_enter Try.func20, Try.ntmps20
  go_wp2_with (
   first
   | ((with_reducible refine gate_dst (N := 2) rfl ?_); refine bx_ 2 #[.int .i64 0, .int .i64 0, .int .i64 0, .bool false, .slice none 0 0, .slice none 0 0] 25 rfl rfl ?hr ?_; (case hr => go_simp; try rfl); intro b2 hg wa hbox hb; have B2 := Aside0.mk hbox; have HB := Aside0.mk hb; have G2 := Aside0.mk (Nat.le_of_eq hg.symm); clear hbox hb hg)
   | ((with_reducible refine gate_callee (f := 41) rfl ?_); refine goesL_ (some 13) rfl rfl Try.func41 (by kernel_rfl) rfl #[.slice A0 l0.length c0] rfl (by (try simp only [List.map_toArray, List.map_cons, List.map_nil]); first | done | rfl | (simp only [List.length_drop, List.length_take]; rfl)) ?_; refine (waypointref08_Sum.calls k A0 c0 l0 x y _ (Kd.C_below HR0.out HB.out) HC0.out HH.out).mono ?_; rintro e w1 ⟨rfl, hd⟩; refine ⟨_, rfl, ?_⟩; obtain ⟨⟨nq, rfl⟩⟩ := hd; have B2a := Aside0.mk (blk_drewN B2.out nq); have HBa := Aside0.mk (pw_below_drewN HB.out nq); have x0 : (wa.drewN nq).cell? ⟨b2, 0, none⟩ = some (.int .i64 0) := (blk_cell B2a.out 0).trans rfl; have xf0 := blk_frozen B2a.out 0; have x1 : (wa.drewN nq).cell? ⟨b2, 1, none⟩ = some (.int .i64 0) := (blk_cell B2a.out 1).trans rfl; have xf1 := blk_frozen B2a.out 1; have x2 : (wa.drewN nq).cell? ⟨b2, 2, none⟩ = some (.int .i64 0) := (blk_cell B2a.out 2).trans rfl; have xf2 := blk_frozen B2a.out 2; have x3 : (wa.drewN nq).cell? ⟨b2, 3, none⟩ = some (.bool false) := (blk_cell B2a.out 3).trans rfl; have xf3 := blk_frozen B2a.out 3; have x4 : (wa.drewN nq).cell? ⟨b2, 4, none⟩ = some (.slice none 0 0) := (blk_cell B2a.out 4).trans rfl; have xf4 := blk_frozen B2a.out 4; have x5 : (wa.drewN nq).cell? ⟨b2, 5, none⟩ = some (.slice none 0 0) := (blk_cell B2a.out 5).trans rfl; have xf5 := blk_frozen B2a.out 5))
  refine bodyPost_ret (results_ct rfl _ _ b2 25 #[.int .i64 0, .int .i64 0, .int .i64 0, .bool false, .slice none 0 0, .slice none 0 0] (0, 0) _ rfl (blk_put (cs' := #[.int .i64 0, .int .i64 0, .int .i64 0, .bool false, .slice none 0 0, .slice none 0 0]) (blk_put (cs' := #[.int .i64 0, .int .i64 0, .int .i64 0, .bool false, .slice none 0 0, .slice none 0 0]) (blk_put (cs' := #[.int .i64 0, .int .i64 0, .int .i64 0, .bool false, .slice none 0 0, .slice none 0 0]) (blk_put (cs' := #[.int .i64 0, .int .i64 0, .int .i64 0, .bool false, .slice none 0 0, .slice none 0 0]) (blk_put (cs' := #[.int .i64 0, .int .i64 0, .int .i64 0, .bool false, .slice none 0 0, .slice none 0 0]) (blk_put (cs' := #[.int .i64 0, .int .i64 0, .int .i64 0, .bool false, .slice none 0 0, .slice none 0 0]) B2a.out 0 (.int .i64 0) rfl) 1 (.int .i64 0) rfl) 2 (.int .i64 0) rfl) 3 (.bool false) rfl) 4 (.slice none 0 0) rfl) 5 (.slice none 0 0) rfl) Try.underlying25 rfl (by kernel_rfl)) rfl ?_
  exact ⟨_, _, rfl, Kd.R_nil _ _ _ _ _, Kd.R_nil _ _ _ _ _, (below_set (below_set (below_set (below_set (below_set (below_set HBa.out G2.out (j := 0) (v := .int .i64 0)) G2.out (j := 1) (v := .int .i64 0)) G2.out (j := 2) (v := .int .i64 0)) G2.out (j := 3) (v := .bool false)) G2.out (j := 4) (v := .slice none 0 0)) G2.out (j := 5) (v := .slice none 0 0))⟩
 ·have qx : (x != 0) = true := by simpa using hx
  clear hn hx
  go_enter Try.func20, Try.ntmps20
  go_wp2_with (
   first
   | ((with_reducible refine gate_dst (N := 2) rfl ?_); refine bx_ 2 #[.int .i64 0, .int .i64 0, .int .i64 0, .bool false, .slice none 0 0, .slice none 0 0] 25 rfl rfl ?hr ?_; (case hr => go_simp; try rfl); intro b2 hg wa hbox hb; have B2 := Aside0.mk hbox; have HB := Aside0.mk hb; have G2 := Aside0.mk (Nat.le_of_eq hg.symm); clear hbox hb hg)
   | ((with_reducible refine gate_callee (f := 41) rfl ?_); refine goesL_ (some 13) rfl rfl Try.func41 (by kernel_rfl) rfl #[.slice A0 l0.length c0] rfl (by (try simp only [List.map_toArray, List.map_cons, List.map_nil]); first | done | rfl | (simp only [List.length_drop, List.length_take]; rfl)) ?_; refine (waypointref08_Sum.calls k A0 c0 l0 x y _ (Kd.C_below HR0.out HB.out) HC0.out HH.out).mono ?_; rintro e w1 ⟨rfl, hd⟩; refine ⟨_, rfl, ?_⟩; obtain ⟨⟨nq, rfl⟩⟩ := hd; have B2a := Aside0.mk (blk_drewN B2.out nq); have HBa := Aside0.mk (pw_below_drewN HB.out nq); have x0 : (wa.drewN nq).cell? ⟨b2, 0, none⟩ = some (.int .i64 0) := (blk_cell B2a.out 0).trans rfl; have xf0 := blk_frozen B2a.out 0; have x1 : (wa.drewN nq).cell? ⟨b2, 1, none⟩ = some (.int .i64 0) := (blk_cell B2a.out 1).trans rfl; have xf1 := blk_frozen B2a.out 1; have x2 : (wa.drewN nq).cell? ⟨b2, 2, none⟩ = some (.int .i64 0) := (blk_cell B2a.out 2).trans rfl; have xf2 := blk_frozen B2a.out 2; have x3 : (wa.drewN nq).cell? ⟨b2, 3, none⟩ = some (.bool false) := (blk_cell B2a.out 3).trans rfl; have xf3 := blk_frozen B2a.out 3; have x4 : (wa.drewN nq).cell? ⟨b2, 4, none⟩ = some (.slice none 0 0) := (blk_cell B2a.out 4).trans rfl; have xf4 := blk_frozen B2a.out 4; have x5 : (wa.drewN nq).cell? ⟨b2, 5, none⟩ = some (.slice none 0 0) := (blk_cell B2a.out 5).trans rfl; have xf5 := blk_frozen B2a.out 5))
  refine bodyPost_ret (results_ct rfl _ _ b2 25 #[.int .i64 0, .int .i64 0, .int .i64 0, .bool false, .slice none 0 0, .slice none 0 0] (0, 0) _ rfl (blk_put (cs' := #[.int .i64 0, .int .i64 0, .int .i64 0, .bool false, .slice none 0 0, .slice none 0 0]) (blk_put (cs' := #[.int .i64 0, .int .i64 0, .int .i64 0, .bool false, .slice none 0 0, .slice none 0 0]) (blk_put (cs' := #[.int .i64 0, .int .i64 0, .int .i64 0, .bool false, .slice none 0 0, .slice none 0 0]) (blk_put (cs' := #[.int .i64 0, .int .i64 0, .int .i64 0, .bool false, .slice none 0 0, .slice none 0 0]) (blk_put (cs' := #[.int .i64 0, .int .i64 0, .int .i64 0, .bool false, .slice none 0 0, .slice none 0 0]) (blk_put (cs' := #[.int .i64 0, .int .i64 0, .int .i64 0, .bool false, .slice none 0 0, .slice none 0 0]) B2a.out 0 (.int .i64 0) rfl) 1 (.int .i64 0) rfl) 2 (.int .i64 0) rfl) 3 (.bool false) rfl) 4 (.slice none 0 0) rfl) 5 (.slice none 0 0) rfl) Try.underlying25 rfl (by kernel_rfl)) rfl ?_
  exact ⟨_, _, rfl, Kd.R_nil _ _ _ _ _, Kd.R_nil _ _ _ _ _, (below_set (below_set (below_set (below_set (below_set (below_set HBa.out G2.out (j := 0) (v := .int .i64 0)) G2.out (j := 1) (v := .int .i64 0)) G2.out (j := 2) (v := .int .i64 0)) G2.out (j := 3) (v := .bool false)) G2.out (j := 4) (v := .slice none 0 0)) G2.out (j := 5) (v := .slice none 0 0))⟩
set_option maxHeartbeats 8000000 in
set_option maxRecDepth 100000 in
theorem rd32_form (k : Nat) (A0 : Option Addr) (c0 : Nat) (l0 : List Int) (w : World) (hr0 : Kd.C (Kd.int .u8) w A0 l0.length l0) (hc0 : l0.length ≤ c0) (h : waypointref08_Sum.f k l0 = some (0, 0)) (l : List (S65)) (e1 : Int) (hd : waypointref07_Decode.f k l0 = some (l, e1)) (he : e1 ≠ 0) :
  Calls Try.prog 20 #[.slice A0 l0.length c0] w (LPost w 0 0 0 false [] [] 4) := by
 have hu := Try.underlying25
 have HH := Aside0.mk h
 have HD := Aside0.mk hd
 have HR0 := Aside0.mk hr0
 have HC0 := Aside0.mk hc0
 clear h hr0 hc0 hd
 have qe : (e1 == 0) = false := by simpa using he
 have qe2 : (e1 != 0) = true := by simpa using he
 clear he
 go_enter Try.func20, Try.ntmps20
 go_wp2_with (
  first
  | ((with_reducible refine gate_dst (N := 2) rfl ?_); refine bx_ 2 #[.int .i64 0, .int .i64 0, .int .i64 0, .bool false, .slice none 0 0, .slice none 0 0] 25 rfl rfl ?hr ?_; (case hr => go_simp; try rfl); intro b2 hg wa hbox hb; have B2 := Aside0.mk hbox; have HB := Aside0.mk hb; have G2 := Aside0.mk (Nat.le_of_eq hg.symm); clear hbox hb hg)
  | ((with_reducible refine gate_callee (f := 41) rfl ?_); refine goesL_ (some 13) rfl rfl Try.func41 (by kernel_rfl) rfl #[.slice A0 l0.length c0] rfl (by (try simp only [List.map_toArray, List.map_cons, List.map_nil]); first | done | rfl | (simp only [List.length_drop, List.length_take]; rfl)) ?_; refine (waypointref08_Sum.calls k A0 c0 l0 0 0 _ (Kd.C_below HR0.out HB.out) HC0.out HH.out).mono ?_; rintro e w1 ⟨rfl, hd⟩; refine ⟨_, rfl, ?_⟩; obtain ⟨⟨nq, rfl⟩⟩ := hd; have B2a := Aside0.mk (blk_drewN B2.out nq); have HBa := Aside0.mk (pw_below_drewN HB.out nq))
  | ((with_reducible refine gate_callee (f := 42) rfl ?_); refine goesL_ (some 25) rfl rfl Try.func42 (by kernel_rfl) rfl #[.slice A0 l0.length c0] rfl (by (try simp only [List.map_toArray, List.map_cons, List.map_nil]); first | done | rfl | (simp only [List.length_drop, List.length_take]; rfl)) ?_; refine (waypointref07_Decode.calls k A0 c0 l0 l e1 _ (Kd.C_below HR0.out HBa.out) HC0.out HD.out).mono ?_; rintro e w1 ⟨v1, rfl, hR, hb1⟩; refine ⟨_, rfl, ?_⟩; obtain ⟨A1, c1, rfl⟩ := Kd.R_slice hR; have B2b := Aside0.mk (blk_below B2a.out hb1); have HBb := Aside0.mk (below_step HBa.out hb1); clear hR hb1; obtain ⟨x0, x1, x2, x3, x4, x5, xf0, xf1, xf2, xf3, xf4, xf5⟩ := c6_ B2b))
 refine bodyPost_ret (results_ct rfl _ _ b2 25 #[.int .i64 0, .int .i64 0, .int .i64 0, .bool false, .slice none 0 0, .slice none 0 0] (0, 0) _ rfl (blk_put (cs' := #[.int .i64 0, .int .i64 0, .int .i64 0, .bool false, .slice none 0 0, .slice none 0 0]) (blk_put (cs' := #[.int .i64 0, .int .i64 0, .int .i64 0, .bool false, .slice none 0 0, .slice none 0 0]) (blk_put (cs' := #[.int .i64 0, .int .i64 0, .int .i64 0, .bool false, .slice none 0 0, .slice none 0 0]) (blk_put (cs' := #[.int .i64 0, .int .i64 0, .int .i64 0, .bool false, .slice none 0 0, .slice none 0 0]) (blk_put (cs' := #[.int .i64 0, .int .i64 0, .int .i64 0, .bool false, .slice none 0 0, .slice none 0 0]) (blk_put (cs' := #[.int .i64 0, .int .i64 0, .int .i64 0, .bool false, .slice none 0 0, .slice none 0 0]) B2b.out 0 (.int .i64 0) rfl) 1 (.int .i64 0) rfl) 2 (.int .i64 0) rfl) 3 (.bool false) rfl) 4 (.slice none 0 0) rfl) 5 (.slice none 0 0) rfl) Try.underlying25 rfl (by kernel_rfl)) rfl ?_
 exact ⟨_, _, rfl, Kd.R_nil _ _ _ _ _, Kd.R_nil _ _ _ _ _, (below_set (below_set (below_set (below_set (below_set (below_set HBb.out G2.out (j := 0) (v := .int .i64 0)) G2.out (j := 1) (v := .int .i64 0)) G2.out (j := 2) (v := .int .i64 0)) G2.out (j := 3) (v := .bool false)) G2.out (j := 4) (v := .slice none 0 0)) G2.out (j := 5) (v := .slice none 0 0))⟩
theorem rd32_step.mono (x : Int) (a : LSt) (r : S65) (k : Nat) : LeO (rd32_step k x a r) (rd32_step (k + 1) x a r) := by
 unfold rd32_step
 repeat' first
  | exact LeO.refl _
  | exact waypointref07_Uint.mono _ _
  | refine LeO.ite ?_ ?_
  | refine LeO.bind ?_ (fun _ => ?_)
theorem waypointref32_Decode.mono_l (k : Nat) : ∀ (l : List (S65)) (x : Int) (a : LSt), LeO (waypointref32_Decode.l0' k x a l) (waypointref32_Decode.l0' (k + 1) x a l)
 | [], _, a => LeO.refl _
 | r :: l, x, a => LeO.bind (rd32_step.mono x a r k) (fun p => waypointref32_Decode.mono_l k l (x + 1) p)
theorem waypointref32_Decode.mono : ∀ (l0 : List Int) (k : Nat), LeO (waypointref32_Decode.f k l0) (waypointref32_Decode.f (k + 1) l0) := by
 intro l0 k
 unfold waypointref32_Decode.f
 repeat' first
  | exact LeO.refl _
  | exact waypointref08_Sum.mono _ _
  | exact waypointref07_Decode.mono _ _
  | exact waypointref32_Decode.mono_l _ _ _ _
  | exact waypointref32_Valid.mono _ _ _ _ _ _ _
  | exact waypointref32_Encode.mono _ _ _ _ _ _ _
  | refine LeO.ite ?_ ?_
  | refine LeO.bind ?_ (fun _ => ?_)
theorem waypointref32_Decode.calls (k : Nat) (A0 : Option Addr) (c0 : Nat) (l0 : List Int) (r1 : Int) (r2 : Int) (r3 : Int) (r4 : Bool) (r5 : List (S43)) (r6 : List (S56)) (r7 : Int) (w : World) (hr0 : Kd.C (Kd.int .u8) w A0 l0.length l0) (hc0 : l0.length ≤ c0) (h : waypointref32_Decode.f k l0 = some (r1, r2, r3, r4, r5, r6, r7)) :
  Calls Try.prog 20 #[.slice A0 l0.length c0] w fun e w' => ∃ v4_ v5_ : Value, e = .returned (.tuple #[.agg #[.int .i64 r1, .int .i64 r2, .int .i64 r3, .bool r4, v4_, v5_], .int .i64 r7]) ∧ Kd.R k43 43 w' w.heap.size (fun _ => True) v4_ r5 ∧ Kd.R k56 56 w' w.heap.size (fun _ => True) v5_ r6 ∧ Below w.heap.size w w' := by
 show Calls Try.prog 20 #[.slice A0 l0.length c0] w (LPost w r1 r2 r3 r4 r5 r6 r7)
 obtain ⟨⟨x, y⟩, ht, h⟩ := Option.bind_eq_some_iff.mp (show (waypointref08_Sum.f k l0).bind _ = _ from h)
 by_cases hxy : x = 0 ∧ y = 0
 ·simp only [if_pos hxy] at h
  obtain ⟨rfl, rfl⟩ := hxy
  obtain ⟨⟨l, e⟩, hd, h⟩ := Option.bind_eq_some_iff.mp h
  by_cases he : e = 0
  ·simp only [if_pos he] at h
   subst he
   obtain ⟨q, hq, h⟩ := Option.bind_eq_some_iff.mp h
   obtain ⟨v, hv, h⟩ := Option.bind_eq_some_iff.mp h
   exact rd32_loop k A0 c0 l0 w hr0 hc0 ht l hd q hq v hv r1 r2 r3 r4 r5 r6 r7 h
  ·simp only [if_neg he, lsaNo, Option.some.injEq, Prod.mk.injEq] at h
   obtain ⟨rfl, rfl, rfl, rfl, rfl, rfl, rfl⟩ := h
   exact rd32_form k A0 c0 l0 w hr0 hc0 ht l e hd he
 ·simp only [if_neg hxy, lsaNo, Option.some.injEq, Prod.mk.injEq] at h
  obtain ⟨rfl, rfl, rfl, rfl, rfl, rfl, rfl⟩ := h
  exact rd32_sum k A0 c0 l0 w hr0 hc0 x y ht hxy


end Go.Proofs.Ytmknjjfdlkgidaa.HLsc
