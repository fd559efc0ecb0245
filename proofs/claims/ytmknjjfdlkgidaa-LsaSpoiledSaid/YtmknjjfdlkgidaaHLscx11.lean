-- LAID by wip/hand.py, a program of this repository, over the kit's print: contracts of our own are put in. Lean checks it.
import Derived.Test.YtmknjjfdlkgidaaHLscx0
namespace Go.Proofs.Ytmknjjfdlkgidaa.HLsc
open Go.RowKit Go.Proofs.YtmknjjfdlkgidaaW.PrintWords Go.Proofs.YtmknjjfdlkgidaaW.PrintLast Go.Proofs.YtmknjjfdlkgidaaW.PrintMore
attribute [local go_sem] gtr_str leq_str max2_int min2_int max_two min_two max_three min_three max_four min_four   -- for this text's walks alone
set_option linter.unusedVariables false
set_option linter.unusedSimpArgs false

/-! ### waypointref32_Prefix: function 33 -/
mutual
def waypointref32_Prefix.j0 : Nat → Bool → Int → Int → Option (Bool)
 | 0, _, _, _ => none
 | k + 1, x11, x269000, x269001 => if x11 = true then (some false) else (waypointref32_Prefix.l0 k x269001 x269000 x269001)
def waypointref32_Prefix.l0 : Nat → Int → Int → Int → Option (Bool)
 | 0, _, _, _ => none
 | k + 1, x3, x269000, x269001 => if x3 < 32 then (if 0 ≤ (wrap64 (31 - x3)) then (if (Go.bits .and .u32 (shr .u32 x269000 (wrap64 (31 - x3))) 1) = 1 then (some false) else (waypointref32_Prefix.l0 k (wrap64 (x3 + 1)) x269000 x269001)) else (none)) else (some true)
end
def waypointref32_Prefix.f (k : Nat) (a0_0 : Int) (a0_1 : Int) : Option (Bool) := if a0_1 < 0 then (waypointref32_Prefix.j0 k true a0_0 a0_1) else (waypointref32_Prefix.j0 k (decide (a0_1 > 32)) a0_0 a0_1)
theorem waypointref32_Prefix.mono_l : ∀ k, (∀ y0 y1 y2, LeO (waypointref32_Prefix.j0 k y0 y1 y2) (waypointref32_Prefix.j0 (k + 1) y0 y1 y2)) ∧ (∀ y0 y1 y2, LeO (waypointref32_Prefix.l0 k y0 y1 y2) (waypointref32_Prefix.l0 (k + 1) y0 y1 y2))
 | 0 => ⟨fun _ _ _ r h => by simp [waypointref32_Prefix.j0] at h, fun _ _ _ r h => by simp [waypointref32_Prefix.l0] at h⟩
 | k + 1 => by
  obtain ⟨ih0, ih1⟩ := waypointref32_Prefix.mono_l k
  refine ⟨?_, ?_⟩
  ·intro y0 y1 y2
   unfold waypointref32_Prefix.j0
   repeat' first
   | (with_reducible exact ih0 _ _ _)
   | (with_reducible exact ih1 _ _ _)
   | (with_reducible exact LeO.refl _)
   | (with_reducible exact LeO.none _)
   | (with_reducible refine LeO.ite ?_ ?_)
   | (with_reducible refine LeO.bind ?_ (fun _ => ?_))
   | exact ih0 _ _ _
   | exact ih1 _ _ _
   | exact LeO.none _
   | refine LeO.ite ?_ ?_
   | refine LeO.bind ?_ (fun _ => ?_)
  ·intro y0 y1 y2
   unfold waypointref32_Prefix.l0
   repeat' first
   | (with_reducible exact ih0 _ _ _)
   | (with_reducible exact ih1 _ _ _)
   | (with_reducible exact LeO.refl _)
   | (with_reducible exact LeO.none _)
   | (with_reducible refine LeO.ite ?_ ?_)
   | (with_reducible refine LeO.bind ?_ (fun _ => ?_))
   | exact ih0 _ _ _
   | exact ih1 _ _ _
   | exact LeO.none _
   | refine LeO.ite ?_ ?_
   | refine LeO.bind ?_ (fun _ => ?_)
theorem waypointref32_Prefix.mono : ∀ a0 a1 k, LeO (waypointref32_Prefix.f k a0 a1) (waypointref32_Prefix.f (k + 1) a0 a1) := by
 intro a0 a1 k
 obtain ⟨ih0, ih1⟩ := waypointref32_Prefix.mono_l k
 unfold waypointref32_Prefix.f
 repeat' first
   | (with_reducible exact ih0 _ _ _)
   | (with_reducible exact ih1 _ _ _)
   | (with_reducible exact LeO.refl _)
   | (with_reducible exact LeO.none _)
   | (with_reducible refine LeO.ite ?_ ?_)
   | (with_reducible refine LeO.bind ?_ (fun _ => ?_))
   | exact ih0 _ _ _
   | exact ih1 _ _ _
   | exact LeO.none _
   | refine LeO.ite ?_ ?_
   | refine LeO.bind ?_ (fun _ => ?_)
set_option maxHeartbeats 8000000 in
set_option maxRecDepth 100000 in
theorem waypointref32_Prefix.calls (k : Nat) (a0_0 : Int) (a0_1 : Int) (r : Bool) (w : World) (h : waypointref32_Prefix.f k a0_0 a0_1 = some r) :
  Calls Try.prog 33 #[.agg #[.int .u32 a0_0, .int .i64 a0_1]] w fun e w' => e = .returned (.bool r) ∧ Below w.heap.size w w' := by
 have hu56 := Try.underlying56
 have HB := Aside0.mk (Below.refl w.heap.size w)
 have H : (if a0_1 < 0 then (waypointref32_Prefix.j0 k true a0_0 a0_1) else (waypointref32_Prefix.j0 k (decide (a0_1 > 32)) a0_0 a0_1)) = some r := h
 clear h
 have HC2 := Aside0.mk H
 clear H
 go_enter Try.func33, Try.ntmps33
 go_upto_region 1 with (first | ((with_reducible refine gate_dst (N := 1) rfl ?_); refine bx_ 1 #[.int .u32 a0_0, .int .i64 a0_1] 56 rfl rfl ?hr ?_; (case hr => go_simp; try rfl); intro gb268 hg w3 hbox hb; have BK268 := Aside0.mk (hbox); have GW268 := gs_ HB hg; have GE268 := gs_ HB hg; replace HB := bs_ HB hb; clear hb hbox hg))
 (try simp only [Act.put, List.setIfInBounds_toArray, List.set_cons_zero, List.set_cons_succ])
 go_cut [11] (fun v11 wc => ∃ (kq : Nat) (x11_1 : Bool), v11 = .bool x11_1 ∧ Aside0 (waypointref32_Prefix.j0 kq x11_1 a0_0 a0_1 = some r) ∧ Aside0 (kq ≤ k) ∧ Aside0 (wc.heap[gb268]? = some (.cells #[.int .u32 a0_0, .int .i64 a0_1] 56 (0, 0))) ∧ Aside0 (Below w.heap.size w wc))
 case first =>
  have H := HC2.out
  clear HC2
  by_cases c4 : a0_1 < 0
  ·rw [if_pos c4] at H
   have c4b0 : decide (a0_1 < 0) = true := decide_eq_true c4
   clear c4
   (first | rw [c4b0] | (simp only [i64_w, i32_w]; rw [c4b0]) | skip)
   have H' := Aside0.mk H
   clear H
   obtain ⟨hcz5_0, hcz5_1, hfz5_0, hfz5_1⟩ := c2_ BK268
   go_wp2
   go_meet
   case rel => exact ⟨_, (true), (by first | rfl | (simp; done) | (simp [*]; done)), H', ⟨by first | omega | exact Nat.le_refl _⟩, ⟨kb_ BK268⟩, ⟨by repeat (first | (with_reducible first | exact HB.out | apply bU | apply bS GE268.out) | exact HB.out)⟩⟩
  ·rw [if_neg c4] at H
   have c4b0 : decide (a0_1 < 0) = false := decide_eq_false c4
   clear c4
   (first | rw [c4b0] | (simp only [i64_w, i32_w]; rw [c4b0]) | skip)
   have H' := Aside0.mk H
   clear H
   obtain ⟨hcz6_0, hcz6_1, hfz6_0, hfz6_1⟩ := c2_ BK268
   go_wp2
   go_meet
   case rel => exact ⟨_, (decide (a0_1 > 32)), (by first | rfl | (simp; done) | (simp [*]; done)), H', ⟨by first | omega | exact Nat.le_refl _⟩, ⟨kb_ BK268⟩, ⟨by repeat (first | (with_reducible first | exact HB.out | apply bU | apply bS GE268.out) | exact HB.out)⟩⟩
 case rest =>
  clear HC2
  obtain ⟨kq, x11_1, rfl, HA, HJ1, BK268, HB⟩ := hcut
  cases kq with
  | zero => exact absurd HA.out (by simp [waypointref32_Prefix.j0])
  | succ kj1 =>
   have H := HA.out
   clear HA
   simp only [waypointref32_Prefix.j0] at H
   by_cases c7 : x11_1 = true
   ·subst c7
    have H1 : (some false) = some r := by rw [if_pos rfl] at H; exact H
    clear H
    have H := H1
    clear H1
    obtain rfl := Option.some.inj H
    go_wp2
    go_ret
    exact ⟨by first | rfl | (simp [errW_none, errW_some] <;> rfl) | (simp [*, errW_none, errW_some] <;> rfl), by repeat (first | (with_reducible first | exact HB.out | apply bU | apply bS GE268.out) | exact HB.out)⟩
   ·replace c7 := Bool.eq_false_iff.mpr c7
    subst c7
    have H1 : (waypointref32_Prefix.l0 kj1 a0_1 a0_0 a0_1) = some r := by rw [if_neg (show ¬ (false = true) by decide)] at H; exact H
    clear H
    have H := H1
    clear H1
    have H' := Aside0.mk H
    clear H
    obtain ⟨hcz8_0, hcz8_1, hfz8_0, hfz8_1⟩ := c2_ BK268
    go_wp2
    go_loopg [3] kj1 (fun kq v3 w' => ∃ (x3_2 : Int), v3 = .int .i64 x3_2 ∧ Aside0 (waypointref32_Prefix.l0 kq x3_2 a0_0 a0_1 = some r) ∧ Aside0 (kq ≤ kj1) ∧ Aside0 (w'.heap[gb268]? = some (.cells #[.int .u32 a0_0, .int .i64 a0_1] 56 (0, 0))) ∧ Aside0 (Below w.heap.size w w'))
    case atStart => exact ⟨(a0_1), (by first | rfl | (simp; done) | (simp [*]; done)), H', ⟨Nat.le_refl _⟩, ⟨kb_ BK268⟩, ⟨by repeat (first | (with_reducible first | exact HB.out | apply bU | apply bS GE268.out) | exact HB.out)⟩⟩
    case round =>
     clear H'
     (try clear c7); (try clear hcz8_0); (try clear hcz8_1); (try clear hfz8_0); (try clear hfz8_1)
     obtain ⟨x3_2, rfl, HA, HK2, BK268, HB⟩ := hrel
     cases gk with
     | zero => exact absurd HA.out (by simp [waypointref32_Prefix.l0])
     | succ k2 =>
      have H := HA.out
      clear HA
      simp only [waypointref32_Prefix.l0] at H
      by_cases c9 : x3_2 < 32
      ·rw [if_pos c9] at H
       have c9b0 : decide (x3_2 < 32) = true := decide_eq_true c9
       clear c9
       obtain ⟨ji10, hji10⟩ : ∃ j_ : Int, (wrap64 (31 - x3_2)) = j_ := ⟨_, rfl⟩
       replace H : (if 0 ≤ (ji10) then (if (Go.bits .and .u32 (shr .u32 a0_0 (ji10)) 1) = 1 then (some false) else (waypointref32_Prefix.l0 k2 (wrap64 (x3_2 + 1)) a0_0 a0_1)) else (none)) = some r := by first | (rw [hji10] at H; exact H) | (simp only [hji10] at H ⊢; exact H)
       have hji10w : (IntKind.i64.wrap (31 - x3_2)) = ji10 := (i64_w _).trans hji10
       by_cases c11 : 0 ≤ (ji10)
       ·rw [if_pos c11] at H
        have c11b0 := eq_true c11
        have c11b1 : decide (0 ≤ (ji10)) = true := decide_eq_true c11
        clear c11
        obtain ⟨ji12, hji12⟩ : ∃ j_ : Int, (shr .u32 a0_0 (ji10)) = j_ := ⟨_, rfl⟩
        replace H : (if (Go.bits .and .u32 (ji12) 1) = 1 then (some false) else (waypointref32_Prefix.l0 k2 (wrap64 (x3_2 + 1)) a0_0 a0_1)) = some r := by first | (rw [hji12] at H; exact H) | (simp only [hji12] at H ⊢; exact H)
        have hji12_ : (a0_0 / 2 ^ min (ji10).toNat 32) = ji12 := hji12
        have hji12z : (ji10) ≤ 32 → (a0_0 / 2 ^ (ji10).toNat) = ji12 := shr_small hji12
        by_cases c13 : (Go.bits .and .u32 (ji12) 1) = 1
        ·rw [if_pos c13] at H
         have c13b0 : ((Go.bits .and .u32 (ji12) 1) == 1) = true := beq_iff_eq.mpr c13
         have c13b1 : ((Go.bits .and .u32 (ji12) 1) != 1) = false := bne_eq_false_iff_eq.mpr c13
         clear c13
         obtain rfl := Option.some.inj H
         obtain ⟨hcz14_0, hcz14_1, hfz14_0, hfz14_1⟩ := c2_ BK268
         go_wp2
         go_ret
         exact ⟨by first | rfl | (simp [errW_none, errW_some] <;> rfl) | (simp only [← hji10, ← hji12]; first | rfl | (simp [errW_none, errW_some] <;> rfl)) | (simp [*, errW_none, errW_some] <;> rfl), by repeat (first | (with_reducible first | exact HB.out | apply bU | apply bS GE268.out) | exact HB.out)⟩
        ·rw [if_neg c13] at H
         have c13b0 : ((Go.bits .and .u32 (ji12) 1) == 1) = false := beq_eq_false_iff_ne.mpr c13
         have c13b1 : ((Go.bits .and .u32 (ji12) 1) != 1) = true := bne_iff_ne.mpr c13
         have H' := Aside0.mk H
         clear H
         obtain ⟨hcz15_0, hcz15_1, hfz15_0, hfz15_1⟩ := c2_ BK268
         go_wp2
         go_roundg k2
         case measure => have := HJ1.out; have := HK2.out; omega
         case rel => exact ⟨(wrap64 (x3_2 + 1)), (by first | rfl | (simp; done) | (simp [*]; done)), H', ⟨by have := HJ1.out; have := HK2.out; omega⟩, ⟨kb_ BK268⟩, ⟨by repeat (first | (with_reducible first | exact HB.out | apply bU | apply bS GE268.out) | exact HB.out)⟩⟩
       ·rw [if_neg c11] at H
        exact absurd H (by simp)
      ·rw [if_neg c9] at H
       have c9b0 : decide (x3_2 < 32) = false := decide_eq_false c9
       clear c9
       obtain rfl := Option.some.inj H
       go_wp2
       go_ret
       exact ⟨by first | rfl | (simp [errW_none, errW_some] <;> rfl) | (simp [*, errW_none, errW_some] <;> rfl), by repeat (first | (with_reducible first | exact HB.out | apply bU | apply bS GE268.out) | exact HB.out)⟩

end Go.Proofs.Ytmknjjfdlkgidaa.HLsc
