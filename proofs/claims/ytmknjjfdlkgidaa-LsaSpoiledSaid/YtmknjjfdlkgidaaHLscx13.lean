-- LAID by wip/hand.py, a program of this repository, over the kit's print: contracts of our own are put in. Lean checks it.
import Derived.Test.YtmknjjfdlkgidaaHLscx0
import Derived.Test.YtmknjjfdlkgidaaHLscx6
import Derived.Test.YtmknjjfdlkgidaaHLscx9
import Derived.Test.YtmknjjfdlkgidaaHLscx10
namespace Go.Proofs.Ytmknjjfdlkgidaa.HLsc
open Go.RowKit Go.Proofs.YtmknjjfdlkgidaaW.PrintWords Go.Proofs.YtmknjjfdlkgidaaW.PrintLast Go.Proofs.YtmknjjfdlkgidaaW.PrintMore
attribute [local go_sem] gtr_str leq_str max2_int min2_int max_two min_two max_three min_three max_four min_four   -- for this text's walks alone
set_option linter.unusedVariables false
set_option linter.unusedSimpArgs false

/-! ### waypointlaw32_LsaSpoiled: function 6 -/
def waypointlaw32_LsaSpoiled.t (k : Nat) (a5 a6 : Int) (b : List Int) : Option Bool :=
 if 0 ≤ a5 ∧ a5 ≤ 65535 ∧ 0 < b.length ∧ b.length ≤ 1000000 then
  ((lsa_Decode.f k (b.take (a5 % (b.length : Int)).toNat)).bind fun q1 => (lsa_Decode.f k (b.set (a5 % (b.length : Int)).toNat a6)).bind fun q2 =>
   if q1.2.2.2.2.2.2 = 0 then none else
   if (rd b (a5 % (b.length : Int)) = 0 ∧ a6 = 255) ∨ (rd b (a5 % (b.length : Int)) = 255 ∧ a6 = 0) then some true else
   if (q2.2.2.2.2.2.2 = 0 ↔ rd b (a5 % (b.length : Int)) = a6) then some true else none)
 else none
def waypointlaw32_LsaSpoiled.f (k : Nat) (a0 : Int) (a1 : Int) (a2 : Int) (a3 : Bool) (l4 : List (S43)) (l5 : List (S56)) (a5 : Int) (a6 : Int) : Option Bool :=
 (waypointlaw32_awake.f).bind fun t => if t = true then ((waypointref32_Few.f a0 a1 a2 a3 l4 l5).bind fun g => if g = true then ((lsa_Encode.f k a0 a1 a2 a3 l4 l5).bind fun p => if p.2 = 0 then waypointlaw32_LsaSpoiled.t k a5 a6 p.1 else if p.2 = 1 then some true else none) else some true) else none
theorem waypointlaw32_LsaSpoiled.true_t {k : Nat} {a5 a6 : Int} {b : List Int} {r : Bool} (h : waypointlaw32_LsaSpoiled.t k a5 a6 b = some r) : r = true ∧ (0 ≤ a5 ∧ a5 ≤ 65535 ∧ 0 < b.length ∧ b.length ≤ 1000000) ∧ ∃ x1 x2 x3 x4 x5 x6 e1 y1 y2 y3 y4 y5 y6 e2, lsa_Decode.f k (b.take (a5 % (b.length : Int)).toNat) = some (x1, x2, x3, x4, x5, x6, e1) ∧ lsa_Decode.f k (b.set (a5 % (b.length : Int)).toNat a6) = some (y1, y2, y3, y4, y5, y6, e2) ∧ e1 ≠ 0 ∧ (¬ ((rd b (a5 % (b.length : Int)) = 0 ∧ a6 = 255) ∨ (rd b (a5 % (b.length : Int)) = 255 ∧ a6 = 0)) → (e2 = 0 ↔ rd b (a5 % (b.length : Int)) = a6)) := by
 unfold waypointlaw32_LsaSpoiled.t at h
 by_cases c : 0 ≤ a5 ∧ a5 ≤ 65535 ∧ 0 < b.length ∧ b.length ≤ 1000000
 ·rw [if_pos c] at h
  obtain ⟨⟨x1, x2, x3, x4, x5, x6, e1⟩, h1, h⟩ := Option.bind_eq_some_iff.mp h
  obtain ⟨⟨y1, y2, y3, y4, y5, y6, e2⟩, h2, h⟩ := Option.bind_eq_some_iff.mp h
  simp only at h
  by_cases c1 : e1 = 0
  ·rw [if_pos c1] at h; cases h
  ·rw [if_neg c1] at h
   by_cases c2 : (rd b (a5 % (b.length : Int)) = 0 ∧ a6 = 255) ∨ (rd b (a5 % (b.length : Int)) = 255 ∧ a6 = 0)
   ·rw [if_pos c2] at h
    exact ⟨(Option.some.inj h).symm, c, x1, x2, x3, x4, x5, x6, e1, y1, y2, y3, y4, y5, y6, e2, h1, h2, c1, fun hn => absurd c2 hn⟩
   ·rw [if_neg c2] at h
    by_cases c3 : (e2 = 0 ↔ rd b (a5 % (b.length : Int)) = a6)
    ·rw [if_pos c3] at h
     exact ⟨(Option.some.inj h).symm, c, x1, x2, x3, x4, x5, x6, e1, y1, y2, y3, y4, y5, y6, e2, h1, h2, c1, fun _ => c3⟩
    ·rw [if_neg c3] at h; cases h
 ·rw [if_neg c] at h; cases h
set_option maxHeartbeats 8000000 in
set_option maxRecDepth 100000 in
theorem waypointlaw32_LsaSpoiled.calls (k : Nat) (a0 : Int) (a1 : Int) (a2 : Int) (a3 : Bool) (A4 : Option Addr) (c4 : Nat) (l4 : List (S43)) (A5 : Option Addr) (c5 : Nat) (l5 : List (S56)) (at_ : Int) (to_ : Int) (r : Bool) (w : World) (hr4 : Kd.C k43 w A4 l4.length l4) (hc4 : l4.length ≤ c4) (hr5 : Kd.C k56 w A5 l5.length l5) (hc5 : l5.length ≤ c5) (h : waypointlaw32_LsaSpoiled.f k a0 a1 a2 a3 l4 l5 at_ to_ = some r) :
  Calls Try.prog 6 #[(.agg #[.int .i64 a0, .int .i64 a1, .int .i64 a2, .bool a3, .slice A4 l4.length c4, .slice A5 l5.length c5]), .int .u16 at_, .int .u8 to_] w fun e w' => e = .returned (.bool r) ∧ Below w.heap.size w w' := by
 have hu := Try.underlying25
 have HR4 := Aside0.mk hr4
 have HC4 := Aside0.mk hc4
 have HR5 := Aside0.mk hr5
 have HC5 := Aside0.mk hc5
 clear hr4 hc4 hr5 hc5
 unfold waypointlaw32_LsaSpoiled.f at h
 replace h := Option.bind_eq_some_iff.mp h
 obtain ⟨t, ht, h⟩ := h
 cases t with
 | false => simp at h
 | true =>
 simp only [if_true] at h
 replace h := Option.bind_eq_some_iff.mp h
 obtain ⟨g, hg0, h⟩ := h
 have HT := Aside0.mk ht
 have HG := Aside0.mk hg0
 clear ht hg0
 cases g with
 | false =>
  simp only [Bool.false_eq_true, if_false, Option.some.injEq] at h
  subst h
  go_enter Try.func6, Try.ntmps6
  go_wp2_with (
   first
   | ((with_reducible refine gate_dst (N := 3) rfl ?_); refine bx_ 3 #[.int .i64 a0, .int .i64 a1, .int .i64 a2, .bool a3, .slice A4 l4.length c4, .slice A5 l5.length c5] 25 rfl rfl ?hr ?_; (case hr => go_simp; try rfl); intro b3 hg wa hbox hb; have B3 := Aside0.mk hbox; have HB := Aside0.mk hb; obtain ⟨x0, x1, x2, x3, x4, x5, xf0, xf1, xf2, xf3, xf4, xf5⟩ := c6_ B3; clear hbox hb hg)
   | ((with_reducible refine gate_callee (f := 10) rfl ?_); refine goesL_ (some 15) rfl rfl Try.func10 (by kernel_rfl) rfl #[] rfl (by (try simp only [List.map_toArray, List.map_cons, List.map_nil]); first | done | rfl | (simp only [List.length_drop, List.length_take]; rfl)) ?_; refine (waypointlaw32_awake.calls true _ HT.out).mono ?_; rintro e w1 ⟨rfl, hb⟩; refine ⟨_, rfl, ?_⟩; have B3a := Aside0.mk (blk_below B3.out hb); have HBa := Aside0.mk (below_step HB.out hb); clear hb x0 x1 x2 x3 x4 x5 xf0 xf1 xf2 xf3 xf4 xf5; obtain ⟨x0, x1, x2, x3, x4, x5, xf0, xf1, xf2, xf3, xf4, xf5⟩ := c6_ B3a)
   | ((with_reducible refine gate_callee (f := 11) rfl ?_); refine goesL_ (some 18) rfl rfl Try.func11 (by kernel_rfl) rfl #[.agg #[.int .i64 a0, .int .i64 a1, .int .i64 a2, .bool a3, .slice A4 l4.length c4, .slice A5 l5.length c5]] rfl (by (try simp only [List.map_toArray, List.map_cons, List.map_nil]); first | done | rfl | (simp only [List.length_drop, List.length_take]; rfl)) ?_; refine (waypointref32_Few.calls a0 a1 a2 a3 A4 c4 l4 A5 c5 l5 false _ (Kd.C_below HR4.out HBa.out) HC4.out (Kd.C_below HR5.out HBa.out) HC5.out HG.out).mono ?_; rintro e w2 ⟨rfl, hb⟩; refine ⟨_, rfl, ?_⟩; have B3b := Aside0.mk (blk_below B3a.out hb); have HBb := Aside0.mk (below_step HBa.out hb); clear hb x0 x1 x2 x3 x4 x5 xf0 xf1 xf2 xf3 xf4 xf5; obtain ⟨x0, x1, x2, x3, x4, x5, xf0, xf1, xf2, xf3, xf4, xf5⟩ := c6_ B3b))
  go_ret
  exact ⟨rfl, HBb.out⟩
 | true =>
 simp only [if_true] at h
 replace h := Option.bind_eq_some_iff.mp h
 obtain ⟨⟨b, e⟩, he, h⟩ := h
 have HE := Aside0.mk he
 clear he
 simp only at h
 by_cases ce : e = 0
 rotate_left
 ·rw [if_neg ce] at h
  by_cases ce1 : e = 1
  rotate_left
  ·rw [if_neg ce1] at h; cases h
  rw [if_pos ce1] at h
  obtain rfl := Option.some.inj h
  subst ce1
  clear h ce
  go_enter Try.func6, Try.ntmps6
  go_wp2_with (
   first
   | ((with_reducible refine gate_dst (N := 3) rfl ?_); refine bx_ 3 #[.int .i64 a0, .int .i64 a1, .int .i64 a2, .bool a3, .slice A4 l4.length c4, .slice A5 l5.length c5] 25 rfl rfl ?hr ?_; (case hr => go_simp; try rfl); intro b3 hg wa hbox hb; have B3 := Aside0.mk hbox; have HB := Aside0.mk hb; obtain ⟨x0, x1, x2, x3, x4, x5, xf0, xf1, xf2, xf3, xf4, xf5⟩ := c6_ B3; clear hbox hb hg)
   | ((with_reducible refine gate_callee (f := 10) rfl ?_); refine goesL_ (some 15) rfl rfl Try.func10 (by kernel_rfl) rfl #[] rfl (by (try simp only [List.map_toArray, List.map_cons, List.map_nil]); first | done | rfl | (simp only [List.length_drop, List.length_take]; rfl)) ?_; refine (waypointlaw32_awake.calls true _ HT.out).mono ?_; rintro e w1 ⟨rfl, hb⟩; refine ⟨_, rfl, ?_⟩; have B3a := Aside0.mk (blk_below B3.out hb); have HBa := Aside0.mk (below_step HB.out hb); clear hb x0 x1 x2 x3 x4 x5 xf0 xf1 xf2 xf3 xf4 xf5; obtain ⟨x0, x1, x2, x3, x4, x5, xf0, xf1, xf2, xf3, xf4, xf5⟩ := c6_ B3a)
   | ((with_reducible refine gate_callee (f := 11) rfl ?_); refine goesL_ (some 18) rfl rfl Try.func11 (by kernel_rfl) rfl #[.agg #[.int .i64 a0, .int .i64 a1, .int .i64 a2, .bool a3, .slice A4 l4.length c4, .slice A5 l5.length c5]] rfl (by (try simp only [List.map_toArray, List.map_cons, List.map_nil]); first | done | rfl | (simp only [List.length_drop, List.length_take]; rfl)) ?_; refine (waypointref32_Few.calls a0 a1 a2 a3 A4 c4 l4 A5 c5 l5 true _ (Kd.C_below HR4.out HBa.out) HC4.out (Kd.C_below HR5.out HBa.out) HC5.out HG.out).mono ?_; rintro e w2 ⟨rfl, hb⟩; refine ⟨_, rfl, ?_⟩; have B3b := Aside0.mk (blk_below B3a.out hb); have HBb := Aside0.mk (below_step HBa.out hb); clear hb x0 x1 x2 x3 x4 x5 xf0 xf1 xf2 xf3 xf4 xf5; obtain ⟨x0, x1, x2, x3, x4, x5, xf0, xf1, xf2, xf3, xf4, xf5⟩ := c6_ B3b)
   | ((with_reducible refine gate_callee (f := 12) rfl ?_); refine goesL_ (some 22) rfl rfl Try.func12 (by kernel_rfl) rfl #[.agg #[.int .i64 a0, .int .i64 a1, .int .i64 a2, .bool a3, .slice A4 l4.length c4, .slice A5 l5.length c5]] rfl (by (try simp only [List.map_toArray, List.map_cons, List.map_nil]); first | done | rfl | (simp only [List.length_drop, List.length_take]; rfl)) ?_; refine (lsa_Encode.calls k a0 a1 a2 a3 A4 c4 l4 A5 c5 l5 b 1 _ (Kd.C_below HR4.out HBb.out) HC4.out (Kd.C_below HR5.out HBb.out) HC5.out HE.out).mono ?_; rintro e w3 ⟨v3, rfl, hR3, hb⟩; refine ⟨_, rfl, ?_⟩; obtain ⟨A3, c3, rfl⟩ := Kd.R_slice hR3; have HR3 := Aside0.mk hR3; have HBc := Aside0.mk (below_step HBb.out hb); clear hb hR3 x0 x1 x2 x3 x4 x5 xf0 xf1 xf2 xf3 xf4 xf5))
  go_ret
  exact ⟨rfl, HBc.out⟩
 subst ce
 rw [if_pos rfl] at h
 obtain ⟨rfl, ⟨t0, t1, b0, b1⟩, x1, x2, x3, x4, x5, x6, e1, y1, y2, y3, y4, y5, y6, e2, hd1, hd2, hn1, hn2⟩ := waypointlaw32_LsaSpoiled.true_t h
 clear h
 have HD1 := Aside0.mk hd1
 have HD2 := Aside0.mk hd2
 have HN2 := Aside0.mk hn2
 have qe1 : (e1 != 0) = true := by simpa using hn1
 have qe1' : (e1 == 0) = false := by simpa using hn1
 clear hd1 hd2 hn1 hn2
 have hm0 : 0 ≤ at_ % (b.length : Int) := Int.emod_nonneg _ (by omega)
 have hm1 : at_ % (b.length : Int) < b.length := Int.emod_lt_of_pos _ (by omega)
 have ib0 : (0 : Int) < b.length := by omega
 have ib1 : (b.length : Int) ≤ 1000000 := by omega
 have qb : ((b.length : Int) == 0) = false := beq_eq_false_iff_ne.mpr (by omega)
 have qb' : (b.length == 0) = false := beq_eq_false_iff_ne.mpr (by omega)
 have qb2 : ¬ (b = []) := fun h_ => by subst h_; simp at b0
 go_enter Try.func6, Try.ntmps6
 go_upto_region 9 with (
  first
  | ((with_reducible refine gate_dst (N := 3) rfl ?_); refine bx_ 3 #[.int .i64 a0, .int .i64 a1, .int .i64 a2, .bool a3, .slice A4 l4.length c4, .slice A5 l5.length c5] 25 rfl rfl ?hr ?_; (case hr => go_simp; try rfl); intro b3 hg wa hbox hb; have B3 := Aside0.mk hbox; have HB := Aside0.mk hb; obtain ⟨x0, x1, x2, x3, x4, x5, xf0, xf1, xf2, xf3, xf4, xf5⟩ := c6_ B3; clear hbox hb hg)
  | ((with_reducible refine gate_callee (f := 10) rfl ?_); refine goesL_ (some 15) rfl rfl Try.func10 (by kernel_rfl) rfl #[] rfl (by (try simp only [List.map_toArray, List.map_cons, List.map_nil]); first | done | rfl | (simp only [List.length_drop, List.length_take]; rfl)) ?_; refine (waypointlaw32_awake.calls true _ HT.out).mono ?_; rintro e w1 ⟨rfl, hb⟩; refine ⟨_, rfl, ?_⟩; have B3a := Aside0.mk (blk_below B3.out hb); have HBa := Aside0.mk (below_step HB.out hb); clear hb x0 x1 x2 x3 x4 x5 xf0 xf1 xf2 xf3 xf4 xf5; obtain ⟨x0, x1, x2, x3, x4, x5, xf0, xf1, xf2, xf3, xf4, xf5⟩ := c6_ B3a)
  | ((with_reducible refine gate_callee (f := 11) rfl ?_); refine goesL_ (some 18) rfl rfl Try.func11 (by kernel_rfl) rfl #[.agg #[.int .i64 a0, .int .i64 a1, .int .i64 a2, .bool a3, .slice A4 l4.length c4, .slice A5 l5.length c5]] rfl (by (try simp only [List.map_toArray, List.map_cons, List.map_nil]); first | done | rfl | (simp only [List.length_drop, List.length_take]; rfl)) ?_; refine (waypointref32_Few.calls a0 a1 a2 a3 A4 c4 l4 A5 c5 l5 true _ (Kd.C_below HR4.out HBa.out) HC4.out (Kd.C_below HR5.out HBa.out) HC5.out HG.out).mono ?_; rintro e w2 ⟨rfl, hb⟩; refine ⟨_, rfl, ?_⟩; have B3b := Aside0.mk (blk_below B3a.out hb); have HBb := Aside0.mk (below_step HBa.out hb); clear hb x0 x1 x2 x3 x4 x5 xf0 xf1 xf2 xf3 xf4 xf5; obtain ⟨x0, x1, x2, x3, x4, x5, xf0, xf1, xf2, xf3, xf4, xf5⟩ := c6_ B3b)
  | ((with_reducible refine gate_callee (f := 12) rfl ?_); refine goesL_ (some 22) rfl rfl Try.func12 (by kernel_rfl) rfl #[.agg #[.int .i64 a0, .int .i64 a1, .int .i64 a2, .bool a3, .slice A4 l4.length c4, .slice A5 l5.length c5]] rfl (by (try simp only [List.map_toArray, List.map_cons, List.map_nil]); first | done | rfl | (simp only [List.length_drop, List.length_take]; rfl)) ?_; refine (lsa_Encode.calls k a0 a1 a2 a3 A4 c4 l4 A5 c5 l5 b 0 _ (Kd.C_below HR4.out HBb.out) HC4.out (Kd.C_below HR5.out HBb.out) HC5.out HE.out).mono ?_; rintro e w3 ⟨v3, rfl, hR3, hb⟩; refine ⟨_, rfl, ?_⟩; obtain ⟨A3, c3, rfl⟩ := Kd.R_slice hR3; have HR3 := Aside0.mk hR3; have HBc := Aside0.mk (below_step HBb.out hb); clear hb hR3 x0 x1 x2 x3 x4 x5 xf0 xf1 xf2 xf3 xf4 xf5))
 generalize at_ % (b.length : Int) = m at hm0 hm1 HD1 HD2 HN2 ⊢
 obtain ⟨i05, hi5, _, hsz5, _⟩ := info_parts info5
 obtain ⟨g3, cap3, e3, hg3, hg3', cells3, hcells3⟩ := Kd.R_form HR3.out b0
 injection e3 with e31 e32 e33
 subst e31 e33
 have G3 := Aside0.mk (show w.heap.size ≤ g3 from Nat.le_trans HBb.out.size hg3)
 clear e32 hg3 hg3' hcells3 cells3
 obtain ⟨hn3, hc3, HC3a⟩ := Kd.R_reads' HR3.out
 obtain ⟨v1, hv1⟩ : ∃ v : List Int, b.take m.toNat = v := ⟨_, rfl⟩
 have hl1 : v1.length = m.toNat := by rw [← hv1, List.length_take]; omega
 have hcut : ∀ W : World, (Instr.slice 28 (.slice (some ⟨g3, 0, none⟩) b.length c3) none (some (.int .i64 m)) none).run Try.prog W = .ok (.slice (some ⟨g3, 0, none⟩) v1.length c3) W := by
  intro W
  have h := cut_to (P := Try.prog) 28 5 .i64 Try.underlying28 hi5 (some ⟨g3, 0, none⟩) b.length c3 m hm0 (by omega) hc3 W
  rw [h, hl1]
 have HC1 := Aside0.mk (show Kd.C (Kd.int .u8) w3 (some ⟨g3, 0, none⟩) v1.length v1 from by have h := Kd.C_take (m := m.toNat) HC3a (by omega); rw [hv1] at h; exact h)
 have HM1 := Aside0.mk (show v1.length ≤ c3 by omega)
 rw [hv1] at HD1
 clear hv1 hl1 hn3 HC3a
 have HC3 := Aside0.mk hc3
 clear hc3
 go_upto_region 10 with (
  first
  | ((with_reducible refine gate_callee (f := 19) rfl ?_); refine goesL_ (some 43) rfl rfl Try.func19 (by kernel_rfl) rfl #[.slice (some ⟨g3, 0, none⟩) v1.length c3] rfl (by (try simp only [List.map_toArray, List.map_cons, List.map_nil]); first | done | rfl | (simp only [List.length_drop, List.length_take]; rfl)) ?_; refine (lsa_Decode.calls k (some ⟨g3, 0, none⟩) c3 v1 x1 x2 x3 x4 x5 x6 e1 _ HC1.out HM1.out HD1.out).mono ?_; rintro e w4 ⟨v4, v5, rfl, hr4, hr5, hb⟩; refine ⟨_, rfl, ?_⟩; obtain ⟨A6, c6, rfl⟩ := Kd.R_slice hr4; obtain ⟨A7, c7, rfl⟩ := Kd.R_slice hr5; have HR4b := Aside0.mk (Kd.R_below HR3.out hb); have HBd := Aside0.mk (below_step HBc.out hb); clear hb hr4 hr5 hcut)
  | ((with_reducible refine gate_dst (N := 10) rfl ?_); refine bx_ 10 #[.int .i64 0, .int .i64 0, .int .i64 0, .bool false, .slice none 0 0, .slice none 0 0] 25 rfl rfl ?hr ?_; (case hr => go_simp; try rfl); intro b10 hg wb hbox hb; have B10 := Aside0.mk hbox; have G10 := Aside0.mk (show w.heap.size ≤ b10 by rw [hg]; exact HBd.out.size); have HBe := Aside0.mk (below_step HBd.out hb); have HR5b := Aside0.mk (Kd.R_below HR4b.out hb); obtain ⟨z0, z1, z2, z3, z4, z5, zf0, zf1, zf2, zf3, zf4, zf5⟩ := c6_ B10; clear hbox hb hg)
  )
 clear z0 z1 z2 z3 z4 z5 zf0 zf1 zf2 zf3 zf4 zf5
 have N0 := blk_put (cs' := #[.int .i64 x1, .int .i64 0, .int .i64 0, .bool false, .slice none 0 0, .slice none 0 0]) B10.out 0 (.int .i64 x1) rfl
 have N1 := blk_put (cs' := #[.int .i64 x1, .int .i64 x2, .int .i64 0, .bool false, .slice none 0 0, .slice none 0 0]) N0 1 (.int .i64 x2) rfl
 have N2 := blk_put (cs' := #[.int .i64 x1, .int .i64 x2, .int .i64 x3, .bool false, .slice none 0 0, .slice none 0 0]) N1 2 (.int .i64 x3) rfl
 have N3 := blk_put (cs' := #[.int .i64 x1, .int .i64 x2, .int .i64 x3, .bool x4, .slice none 0 0, .slice none 0 0]) N2 3 (.bool x4) rfl
 have N4 := blk_put (cs' := #[.int .i64 x1, .int .i64 x2, .int .i64 x3, .bool x4, .slice A6 x5.length c6, .slice none 0 0]) N3 4 (.slice A6 x5.length c6) rfl
 have N5 := blk_put (cs' := #[.int .i64 x1, .int .i64 x2, .int .i64 x3, .bool x4, .slice A6 x5.length c6, .slice A7 x6.length c7]) N4 5 (.slice A7 x6.length c7) rfl
 have HR6 := Aside0.mk (Kd.R_set (Kd.R_set (Kd.R_set (Kd.R_set (Kd.R_set (Kd.R_set HR5b.out B10.out (by decide) _ _) N0 (by decide) _ _) N1 (by decide) _ _) N2 (by decide) _ _) N3 (by decide) _ _) N4 (by decide) 5 (.slice A7 x6.length c7))
 have HBf := Aside0.mk (below_set (below_set (below_set (below_set (below_set (below_set HBe.out G10.out (j := 0) (v := .int .i64 x1)) G10.out (j := 1) (v := .int .i64 x2)) G10.out (j := 2) (v := .int .i64 x3)) G10.out (j := 3) (v := .bool x4)) G10.out (j := 4) (v := .slice A6 x5.length c6)) G10.out (j := 5) (v := .slice A7 x6.length c7))
 clear N0 N1 N2 N3 N4 N5 HR5b HR4b HBe HBd B10 HC1 HD1
 generalize ((((((wb.setCell ⟨b10, 0, none⟩ (.int .i64 x1)).setCell ⟨b10, 1, none⟩ (.int .i64 x2)).setCell ⟨b10, 2, none⟩ (.int .i64 x3)).setCell ⟨b10, 3, none⟩ (.bool x4)).setCell ⟨b10, 4, none⟩ (.slice A6 x5.length c6)).setCell ⟨b10, 5, none⟩ (.slice A7 x6.length c7)) = W6 at HR6 HBf ⊢
 obtain ⟨hcm, hfm⟩ := Kd.R_cell (0 : Int) HR6.out m hm0 hm1
 replace hcm : W6.cell? ⟨g3, m.toNat, none⟩ = some (.int .u8 (rd b m)) := hcm
 go_upto_region 12 with (fail)
 obtain ⟨v2, hv2⟩ : ∃ v : List Int, b.set m.toNat to_ = v := ⟨_, rfl⟩
 have hl2 : b.length = v2.length := by rw [← hv2, List.length_set]
 have hR7 := (Kd.R_put HR6.out m to_).1
 rw [hv2, hl2] at hR7
 rw [hv2] at HD2
 have HR7 := Aside0.mk hR7
 have HBg := Aside0.mk (Below.setCell HBf.out (p := ⟨g3, m.toNat, none⟩) G3.out (.int .u8 to_))
 obtain ⟨x, hx⟩ : ∃ x : Int, rd b m = x := ⟨_, rfl⟩
 rw [hx] at HN2
 rw [hx, hl2]
 have HL2 := Aside0.mk hl2
 clear hcm hfm hR7 hv2 hx hl2 qb qb' qb2 ib0 ib1 hm0 hm1 b0 b1 HR6 HBf HR3
 by_cases hE : e2 = 0 <;> by_cases hF : x = to_ <;> by_cases hA : x = 0 <;> by_cases hB : to_ = 255 <;> by_cases hC : x = 255 <;> by_cases hD : to_ = 0 <;> (first | (exfalso; have := HN2.out; omega) | skip)
 all_goals
  first | (have qA : (x == 0) = true := by simpa using hA) | (have qA : (x == 0) = false := by simpa using hA)
  first | (have qB : (to_ == 255) = true := by simpa using hB) | (have qB : (to_ == 255) = false := by simpa using hB)
  first | (have qC : (x == 255) = true := by simpa using hC) | (have qC : (x == 255) = false := by simpa using hC)
  first | (have qD : (to_ == 0) = true := by simpa using hD) | (have qD : (to_ == 0) = false := by simpa using hD)
  first | (have qE : (e2 == 0) = true := by simpa using hE) | (have qE : (e2 == 0) = false := by simpa using hE)
  first | (have qF : (x == to_) = true := by simpa using hF) | (have qF : (x == to_) = false := by simpa using hF)
  clear hA hB hC hD hE hF
  go_wp2_with (
   first
   | ((with_reducible refine gate_callee (f := 19) rfl ?_); refine goesL_ (some 56) rfl rfl Try.func19 (by kernel_rfl) rfl #[.slice (some ⟨g3, 0, none⟩) v2.length c3] rfl (by (try simp only [List.map_toArray, List.map_cons, List.map_nil]); first | done | rfl | (simp only [List.length_drop, List.length_take]; rfl)) ?_; refine (lsa_Decode.calls k (some ⟨g3, 0, none⟩) c3 v2 y1 y2 y3 y4 y5 y6 e2 _ (Kd.R_reads' HR7.out).2.2 (Kd.R_reads' HR7.out).2.1 HD2.out).mono ?_; rintro e w7 ⟨v4, v5, rfl, hr4, hr5, hb⟩; refine ⟨_, rfl, ?_⟩; obtain ⟨A8, c8, rfl⟩ := Kd.R_slice hr4; obtain ⟨A9, c9, rfl⟩ := Kd.R_slice hr5; have HBh := Aside0.mk (below_step HBg.out hb); clear hb hr4 hr5)
   | ((with_reducible refine gate_dst (N := 13) rfl ?_); refine bx_ 13 #[.int .i64 0, .int .i64 0, .int .i64 0, .bool false, .slice none 0 0, .slice none 0 0] 25 rfl rfl ?hr ?_; (case hr => go_simp; try rfl); intro b13 hg wc hbox hb; have B13 := Aside0.mk hbox; have G13 := Aside0.mk (show w.heap.size ≤ b13 by rw [hg]; exact HBh.out.size); have HBi := Aside0.mk (below_step HBh.out hb); obtain ⟨z0, z1, z2, z3, z4, z5, zf0, zf1, zf2, zf3, zf4, zf5⟩ := c6_ B13; clear hbox hb hg)
   )
  go_ret
  exact ⟨rfl, (below_set (below_set (below_set (below_set (below_set (below_set HBi.out G13.out (j := 0) (v := .int .i64 y1)) G13.out (j := 1) (v := .int .i64 y2)) G13.out (j := 2) (v := .int .i64 y3)) G13.out (j := 3) (v := .bool y4)) G13.out (j := 4) (v := .slice A8 y5.length c8)) G13.out (j := 5) (v := .slice A9 y6.length c9))⟩
theorem waypointlaw32_LsaSpoiled.mono_skip : True := trivial


end Go.Proofs.Ytmknjjfdlkgidaa.HLsc
