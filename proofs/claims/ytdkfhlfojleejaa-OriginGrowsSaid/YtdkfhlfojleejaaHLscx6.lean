-- LAID by wip/hand.py, a program of this repository, over the kit's print: contracts of our own are put in. Lean checks it.
import Derived.Test.YtdkfhlfojleejaaHLscx0
import Derived.Test.YtdkfhlfojleejaaHLscx4
import Derived.Test.YtdkfhlfojleejaaHLscx5
namespace Go.Proofs.Ytdkfhlfojleejaa.HLsc
open Go.RowKit Go.Proofs.YtdkfhlfojleejaaW.PrintWords Go.Proofs.YtdkfhlfojleejaaW.PrintLast Go.Proofs.YtdkfhlfojleejaaW.PrintMore
attribute [local go_sem] gtr_str leq_str max2_int min2_int max_two min_two max_three min_three max_four min_four   -- for this text's walks alone
set_option linter.unusedVariables false
set_option linter.unusedSimpArgs false

/-! ### fletcher_Update: function 70 -/
def fletcher_Update.l0 : Nat → Int → Int → List Int → Int → Int → Option (Int × Int)
 | 0, _, _, _, _, _ => none
 | k + 1, x0, x1, x14, x15, x16 => if x16 < x15 then (if 0 ≤ x16 then (if x16 < (x14.length : Int) then (fletcher_Update.l0 k (Int.tmod (wrap64 (x0 + (wrap64 (rd x14 x16)))) 255) (Int.tmod (wrap64 (x1 + (Int.tmod (wrap64 (x0 + (wrap64 (rd x14 x16)))) 255))) 255) x14 x15 (wrap64 (x16 + 1))) else (none)) else (none)) else (some (x0, x1))
def fletcher_Update.f (k : Nat) (a0 : Int) (a1 : Int) (l2 : List Int) : Option (Int × Int) := (fletcher_reduce.f a0).bind fun t159 => ((fletcher_reduce.f a1).bind fun t160 => (fletcher_Update.l0 k t159 t160 l2 (l2.length : Int) 0))
theorem fletcher_Update.mono_l : ∀ k, (∀ y0 y1 y2 y3 y4, LeO (fletcher_Update.l0 k y0 y1 y2 y3 y4) (fletcher_Update.l0 (k + 1) y0 y1 y2 y3 y4))
 | 0 => fun _ _ _ _ _ r h => by simp [fletcher_Update.l0] at h
 | k + 1 => by
  have ih0 := fletcher_Update.mono_l k
  ·intro y0 y1 y2 y3 y4
   unfold fletcher_Update.l0
   repeat' first
   | (with_reducible exact ih0 _ _ _ _ _)
   | (with_reducible exact LeO.refl _)
   | (with_reducible exact LeO.none _)
   | (with_reducible refine LeO.ite ?_ ?_)
   | (with_reducible refine LeO.bind ?_ (fun _ => ?_))
   | exact ih0 _ _ _ _ _
   | exact LeO.none _
   | refine LeO.ite ?_ ?_
   | refine LeO.bind ?_ (fun _ => ?_)
theorem fletcher_Update.mono : ∀ a0 a1 a2 k, LeO (fletcher_Update.f k a0 a1 a2) (fletcher_Update.f (k + 1) a0 a1 a2) := by
 intro a0 a1 a2 k
 have ih0 := fletcher_Update.mono_l k
 unfold fletcher_Update.f
 repeat' first
   | (with_reducible exact ih0 _ _ _ _ _)
   | (with_reducible exact LeO.refl _)
   | (with_reducible exact LeO.none _)
   | (with_reducible refine LeO.ite ?_ ?_)
   | (with_reducible refine LeO.bind ?_ (fun _ => ?_))
   | exact ih0 _ _ _ _ _
   | exact LeO.none _
   | refine LeO.ite ?_ ?_
   | refine LeO.bind ?_ (fun _ => ?_)
set_option maxHeartbeats 8000000 in
set_option maxRecDepth 100000 in
theorem fletcher_Update.calls (k : Nat) (a0 : Int) (a1 : Int) (A2 : Option Addr) (c2 : Nat) (l2 : List Int) (r1 : Int) (r2 : Int) (w : World) (hr2 : Kd.C (Kd.int .u8) w A2 l2.length l2) (hc2 : l2.length ≤ c2) (h : fletcher_Update.f k a0 a1 l2 = some (r1, r2)) :
  Calls Try.prog 70 #[.int .i64 a0, .int .i64 a1, .slice A2 l2.length c2] w fun e w' => e = .returned (.tuple #[.int .i64 r1, .int .i64 r2]) ∧ Drawn0 w w' := by
 have HR2 := Aside0.mk hr2
 have HC2 := Aside0.mk hc2
 clear hr2 hc2
 have H : ((fletcher_reduce.f a0).bind fun t159 => ((fletcher_reduce.f a1).bind fun t160 => (fletcher_Update.l0 k t159 t160 l2 (l2.length : Int) 0))) = some (r1, r2) := h
 clear h
 replace H := Option.bind_eq_some_iff.mp H
 obtain ⟨t159, A40, H⟩ := H
 replace H : ((fletcher_reduce.f a1).bind fun t160 => (fletcher_Update.l0 k t159 t160 l2 (l2.length : Int) 0)) = some (r1, r2) := H
 have A4 := Aside0.mk A40
 clear A40
 replace H := Option.bind_eq_some_iff.mp H
 obtain ⟨t160, A50, H⟩ := H
 replace H : (fletcher_Update.l0 k t159 t160 l2 (l2.length : Int) 0) = some (r1, r2) := H
 have A5 := Aside0.mk A50
 clear A50
 have H' := Aside0.mk H
 clear H
 go_enter Try.func70, Try.ntmps70
 go_wp2_with (first | ((with_reducible refine gate_callee (f := 67) rfl ?_); refine goesL_ (some 11) rfl rfl Try.func67 (by kernel_rfl) rfl #[.int .i64 a0] rfl (by (try simp only [List.map_toArray, List.map_cons, List.map_nil]); first | done | rfl | (simp only [List.length_drop, List.length_take]; rfl)) ?_; (with_reducible refine (fletcher_reduce.calls a0 t159 _ A4.out).mono ?_); rintro e w' ⟨rfl, ⟨nd, rfl⟩⟩; refine ⟨_, rfl, ?_⟩) | ((with_reducible refine gate_callee (f := 67) rfl ?_); refine goesL_ (some 13) rfl rfl Try.func67 (by kernel_rfl) rfl #[.int .i64 a1] rfl (by (try simp only [List.map_toArray, List.map_cons, List.map_nil]); first | done | rfl | (simp only [List.length_drop, List.length_take]; rfl)) ?_; (with_reducible refine (fletcher_reduce.calls a1 t160 _ A5.out).mono ?_); rintro e w' ⟨rfl, ⟨nd, rfl⟩⟩; refine ⟨_, rfl, ?_⟩))
 go_loopg [0, 1, 16] k (fun kq v0 v1 v16 w' => ∃ (x0_1 : Int) (x1_1 : Int) (x16_1 : Int), v0 = .int .i64 x0_1 ∧ v1 = .int .i64 x1_1 ∧ v16 = .int .i64 x16_1 ∧ Aside0 (fletcher_Update.l0 kq x0_1 x1_1 l2 (l2.length : Int) x16_1 = some (r1, r2)) ∧ Aside0 (kq ≤ k) ∧ Drawn0 w w')
 case atStart => exact ⟨(t159), (t160), (0), (by first | rfl | (simp; done) | (simp [*]; done)), (by first | rfl | (simp; done) | (simp [*]; done)), (by first | rfl | (simp; done) | (simp [*]; done)), H', ⟨Nat.le_refl _⟩, by repeat (first | exact Drawn0.refl _ | apply Drawn0.step)⟩
 case round =>
  clear H'
  (try clear c2)
  obtain ⟨x0_1, x1_1, x16_1, rfl, rfl, rfl, HA, HK1, ⟨m1, rfl⟩⟩ := hrel
  cases gk with
  | zero => exact absurd HA.out (by simp [fletcher_Update.l0])
  | succ k1 =>
   have H := HA.out
   clear HA
   simp only [fletcher_Update.l0] at H
   by_cases c6 : x16_1 < (l2.length : Int)
   ·rw [if_pos c6] at H
    have c6b0 : decide (x16_1 < (l2.length : Int)) = true := decide_eq_true c6
    clear c6
    by_cases c7 : 0 ≤ x16_1
    ·rw [if_pos c7] at H
     have c7b0 : decide (0 ≤ x16_1) = true := decide_eq_true c7
     clear c7
     by_cases c8 : x16_1 < (l2.length : Int)
     ·rw [if_pos c8] at H
      have c8b0 : decide (x16_1 < (l2.length : Int)) = true := decide_eq_true c8
      clear c8
      have H' := Aside0.mk H
      clear H
      have p161 : 0 ≤ (x16_1 : Int) := of_decide_eq_true (by first | (with_reducible assumption) | assumption)
      have q161 : x16_1 < (l2.length : Int) := of_decide_eq_true (by first | (with_reducible assumption) | assumption)
      obtain ⟨ad161, e161, hx161_0⟩ := Kd.at_int HR2.out x16_1 p161 q161
      cases e161
      replace p161 := eq_true p161
      replace q161 := eq_true q161
      go_wp2
      go_roundg k1
      case measure => have := HK1.out; omega
      case rel => exact ⟨(Int.tmod (wrap64 (x0_1 + (wrap64 (rd l2 x16_1)))) 255), (Int.tmod (wrap64 (x1_1 + (Int.tmod (wrap64 (x0_1 + (wrap64 (rd l2 x16_1)))) 255))) 255), (wrap64 (x16_1 + 1)), (by first | rfl | (simp; done) | (simp [*]; done)), (by first | rfl | (simp; done) | (simp [*]; done)), (by first | rfl | (simp; done) | (simp [*]; done)), H', ⟨by have := HK1.out; omega⟩, by repeat (first | exact Drawn0.refl _ | apply Drawn0.step)⟩
     ·rw [if_neg c8] at H
      exact absurd H (by simp)
    ·rw [if_neg c7] at H
     exact absurd H (by simp)
   ·rw [if_neg c6] at H
    have c6b0 : decide (x16_1 < (l2.length : Int)) = false := decide_eq_false c6
    clear c6
    simp only [Option.some.injEq, Prod.mk.injEq] at H
    obtain ⟨rfl, rfl⟩ := H
    go_wp2
    go_ret2
    exact ⟨by first | rfl | (simp; done) | (simp [*]; done), by repeat (first | exact Drawn0.refl _ | apply Drawn0.step)⟩

/-! ### fletcher_Sum: function 66 -/
def fletcher_Sum.f (k : Nat) (l0 : List Int) : Option (Int × Int) := (fletcher_Update.f k 0 0 l0).bind fun bt162 => (some (bt162.1, bt162.2))
theorem fletcher_Sum.mono : ∀ a0 k, LeO (fletcher_Sum.f k a0) (fletcher_Sum.f (k + 1) a0) := by
 intro a0 k
 unfold fletcher_Sum.f
 repeat' first
   | (with_reducible exact fletcher_Update.mono _ _ _ _)
   | (with_reducible exact LeO.refl _)
   | (with_reducible exact LeO.none _)
   | (with_reducible refine LeO.ite ?_ ?_)
   | (with_reducible refine LeO.bind ?_ (fun _ => ?_))
   | exact fletcher_Update.mono _ _ _ _
   | exact LeO.none _
   | refine LeO.ite ?_ ?_
   | refine LeO.bind ?_ (fun _ => ?_)
set_option maxHeartbeats 8000000 in
set_option maxRecDepth 100000 in
theorem fletcher_Sum.calls (k : Nat) (A0 : Option Addr) (c0 : Nat) (l0 : List Int) (r1 : Int) (r2 : Int) (w : World) (hr0 : Kd.C (Kd.int .u8) w A0 l0.length l0) (hc0 : l0.length ≤ c0) (h : fletcher_Sum.f k l0 = some (r1, r2)) :
  Calls Try.prog 66 #[.slice A0 l0.length c0] w fun e w' => e = .returned (.tuple #[.int .i64 r1, .int .i64 r2]) ∧ Drawn0 w w' := by
 have HR0 := Aside0.mk hr0
 have HC0 := Aside0.mk hc0
 clear hr0 hc0
 have H : ((fletcher_Update.f k 0 0 l0).bind fun bt162 => (some (bt162.1, bt162.2))) = some (r1, r2) := h
 clear h
 replace H := Option.bind_eq_some_iff.mp H
 obtain ⟨⟨t162, t163⟩, A20, H⟩ := H
 replace H : (some (t162, t163)) = some (r1, r2) := H
 have A2 := Aside0.mk A20
 clear A20
 simp only [Option.some.injEq, Prod.mk.injEq] at H
 obtain ⟨rfl, rfl⟩ := H
 go_enter Try.func66, Try.ntmps66
 go_wp2_with (first | ((with_reducible refine gate_callee (f := 70) rfl ?_); refine goesL_ (some 5) rfl rfl Try.func70 (by kernel_rfl) rfl #[.int .i64 0, .int .i64 0, .slice A0 l0.length c0] rfl (by (try simp only [List.map_toArray, List.map_cons, List.map_nil]); first | done | rfl | (simp only [List.length_drop, List.length_take]; rfl)) ?_; (with_reducible refine (fletcher_Update.calls k 0 0 _ _ l0 t162 t163 _ ?side1 ?side2 A2.out).mono ?_); (case side1 => repeat (first | exact HR0.out | (with_reducible refine Kd.C_alloc ?_ _) | (with_reducible refine Kd.C_drewN ?_ _) | (with_reducible refine Kd.C_drew ?_))); (case side2 => exact HC0.out); rintro e w' ⟨rfl, ⟨nd, rfl⟩⟩; refine ⟨_, rfl, ?_⟩))
 go_ret2
 exact ⟨by first | rfl | (simp; done) | (simp [*]; done), by repeat (first | exact Drawn0.refl _ | apply Drawn0.step)⟩

/-! ### fletcher_Seal: function 59 -/
def fletcher_Seal.j0 : Nat → List Int → Int → Bool → Option (List Int × Int)
 | 0, _, _, _ => none
 | k + 1, x0, x1, x20 => if x20 = true then (some (([] : List Int), 2)) else ((slices_Clone_byte_byte.f x0).bind fun t164 => (if 0 ≤ x1 then (if x1 < (t164.length : Int) then (if 0 ≤ (wrap64 (x1 + 1)) then (if (wrap64 (x1 + 1)) < (t164.length : Int) then ((some ((t164.set (x1 : Int).toNat 0).set ((wrap64 (x1 + 1)) : Int).toNat 0 : List Int)).bind fun y168 => ((fletcher_Sum.f k y168).bind fun bt169 => ((fletcher_reduce.f (wrap64 ((wrap64 ((x0.length : Int) - x1)) - 1))).bind fun t171 => ((fletcher_reduce.f (wrap64 ((wrap64 (t171 * bt169.1)) - bt169.2))).bind fun t172 => ((fletcher_reduce.f (wrap64 ((wrap64 (-bt169.1)) - t172))).bind fun t173 => (some (((y168.set (x1 : Int).toNat ((t172) % 256)).set ((wrap64 (x1 + 1)) : Int).toNat ((t173) % 256)), 0))))))) else (none)) else (none)) else (none)) else (none)))
def fletcher_Seal.f (k : Nat) (l0 : List Int) (a1 : Int) : Option (List Int × Int) := if a1 < 0 then (fletcher_Seal.j0 k l0 a1 true) else (fletcher_Seal.j0 k l0 a1 (decide (a1 ≥ (wrap64 ((l0.length : Int) - 1)))))
theorem fletcher_Seal.mono_l : ∀ k, (∀ y0 y1 y2, LeO (fletcher_Seal.j0 k y0 y1 y2) (fletcher_Seal.j0 (k + 1) y0 y1 y2))
 | 0 => fun _ _ _ r h => by simp [fletcher_Seal.j0] at h
 | k + 1 => by
  have ih0 := fletcher_Seal.mono_l k
  ·intro y0 y1 y2
   unfold fletcher_Seal.j0
   repeat' first
   | (with_reducible exact ih0 _ _ _)
   | (with_reducible exact fletcher_Sum.mono _ _)
   | (with_reducible exact LeO.refl _)
   | (with_reducible exact LeO.none _)
   | (with_reducible refine LeO.ite ?_ ?_)
   | (with_reducible refine LeO.bind ?_ (fun _ => ?_))
   | exact ih0 _ _ _
   | exact fletcher_Sum.mono _ _
   | exact LeO.none _
   | refine LeO.ite ?_ ?_
   | refine LeO.bind ?_ (fun _ => ?_)
theorem fletcher_Seal.mono : ∀ a0 a1 k, LeO (fletcher_Seal.f k a0 a1) (fletcher_Seal.f (k + 1) a0 a1) := by
 intro a0 a1 k
 have ih0 := fletcher_Seal.mono_l k
 unfold fletcher_Seal.f
 repeat' first
   | (with_reducible exact ih0 _ _ _)
   | (with_reducible exact fletcher_Sum.mono _ _)
   | (with_reducible exact LeO.refl _)
   | (with_reducible exact LeO.none _)
   | (with_reducible refine LeO.ite ?_ ?_)
   | (with_reducible refine LeO.bind ?_ (fun _ => ?_))
   | exact ih0 _ _ _
   | exact fletcher_Sum.mono _ _
   | exact LeO.none _
   | refine LeO.ite ?_ ?_
   | refine LeO.bind ?_ (fun _ => ?_)
set_option maxHeartbeats 8000000 in
set_option maxRecDepth 100000 in
theorem fletcher_Seal.calls (k : Nat) (A0 : Option Addr) (c0 : Nat) (l0 : List Int) (a1 : Int) (r1 : List Int) (r2 : Int) (w : World) (hr0 : Kd.C (Kd.int .u8) w A0 l0.length l0) (hc0 : l0.length ≤ c0) (h : fletcher_Seal.f k l0 a1 = some (r1, r2)) :
  Calls Try.prog 59 #[.slice A0 l0.length c0, .int .i64 a1] w fun e w' => ∃ v0_ : Value, e = .returned (.tuple #[v0_, .int .i64 r2]) ∧ Kd.R (Kd.int .u8) 5 w' w.heap.size (fun _ => True) v0_ r1 ∧ Below w.heap.size w w' := by
 have HR0 := Aside0.mk hr0
 have HC0 := Aside0.mk hc0
 clear hr0 hc0
 have HB := Aside0.mk (Below.refl w.heap.size w)
 have H : (if a1 < 0 then (fletcher_Seal.j0 k l0 a1 true) else (fletcher_Seal.j0 k l0 a1 (decide (a1 ≥ (wrap64 ((l0.length : Int) - 1)))))) = some (r1, r2) := h
 clear h
 have HC3 := Aside0.mk H
 clear H
 go_enter Try.func59, Try.ntmps59
 go_upto_region 1 with (fail)
 go_cut [20] (fun v20 wc => ∃ (kq : Nat) (x20_2 : Bool), v20 = .bool x20_2 ∧ Aside0 (fletcher_Seal.j0 kq l0 a1 x20_2 = some (r1, r2)) ∧ Aside0 (kq ≤ k) ∧ Aside0 (Below w.heap.size w wc))
 case first =>
  have H := HC3.out
  clear HC3
  by_cases c4 : a1 < 0
  ·rw [if_pos c4] at H
   have c4b0 : decide (a1 < 0) = true := decide_eq_true c4
   clear c4
   (first | rw [c4b0] | (simp only [i64_w, i32_w]; rw [c4b0]) | skip)
   have H' := Aside0.mk H
   clear H
   go_wp2
   go_meet
   case rel => exact ⟨_, (true), (by first | rfl | (simp; done) | (simp [*]; done)), H', ⟨by first | omega | exact Nat.le_refl _⟩, ⟨kw_ HB⟩⟩
  ·rw [if_neg c4] at H
   have c4b0 : decide (a1 < 0) = false := decide_eq_false c4
   clear c4
   (first | rw [c4b0] | (simp only [i64_w, i32_w]; rw [c4b0]) | skip)
   have H' := Aside0.mk H
   clear H
   go_wp2
   go_meet
   case rel => exact ⟨_, (decide (a1 ≥ (wrap64 ((l0.length : Int) - 1)))), (by first | rfl | (simp; done) | (simp [*]; done)), H', ⟨by first | omega | exact Nat.le_refl _⟩, ⟨kw_ HB⟩⟩
 case rest =>
  clear HC3
  obtain ⟨kq, x20_2, rfl, HA, HJ2, HB⟩ := hcut
  cases kq with
  | zero => exact absurd HA.out (by simp [fletcher_Seal.j0])
  | succ kj2 =>
   have H := HA.out
   clear HA
   simp only [fletcher_Seal.j0] at H
   by_cases c5 : x20_2 = true
   ·subst c5
    have H1 : (some (([] : List Int), 2)) = some (r1, r2) := by rw [if_pos rfl] at H; exact H
    clear H
    have H := H1
    clear H1
    simp only [Option.some.injEq, Prod.mk.injEq] at H
    obtain ⟨rfl, rfl⟩ := H
    go_wp2
    go_ret2
    exact ⟨_, by first | rfl | (simp [errW_none, errW_some] <;> rfl) | (simp [*, errW_none, errW_some] <;> rfl), by first | exact Kd.R_nil _ _ _ _ _ | exact Kd.N_nil _ _ _ _ _ | exact Kd.V_nil _ _ _ _ _ | exact Kd.Q_nil _ _ _ _ _ | exact Kd.S_nil _ _ _ _ _, kw_ HB⟩
   ·replace c5 := Bool.eq_false_iff.mpr c5
    subst c5
    have H1 : ((slices_Clone_byte_byte.f l0).bind fun t164 => (if 0 ≤ a1 then (if a1 < (t164.length : Int) then (if 0 ≤ (wrap64 (a1 + 1)) then (if (wrap64 (a1 + 1)) < (t164.length : Int) then ((some ((t164.set (a1 : Int).toNat 0).set ((wrap64 (a1 + 1)) : Int).toNat 0 : List Int)).bind fun y168 => ((fletcher_Sum.f kj2 y168).bind fun bt169 => ((fletcher_reduce.f (wrap64 ((wrap64 ((l0.length : Int) - a1)) - 1))).bind fun t171 => ((fletcher_reduce.f (wrap64 ((wrap64 (t171 * bt169.1)) - bt169.2))).bind fun t172 => ((fletcher_reduce.f (wrap64 ((wrap64 (-bt169.1)) - t172))).bind fun t173 => (some (((y168.set (a1 : Int).toNat ((t172) % 256)).set ((wrap64 (a1 + 1)) : Int).toNat ((t173) % 256)), 0))))))) else (none)) else (none)) else (none)) else (none))) = some (r1, r2) := by rw [if_neg (show ¬ (false = true) by decide)] at H; exact H
    clear H
    have H := H1
    clear H1
    replace H := Option.bind_eq_some_iff.mp H
    obtain ⟨t164, A60, H⟩ := H
    replace H : (if 0 ≤ a1 then (if a1 < (t164.length : Int) then (if 0 ≤ (wrap64 (a1 + 1)) then (if (wrap64 (a1 + 1)) < (t164.length : Int) then ((some ((t164.set (a1 : Int).toNat 0).set ((wrap64 (a1 + 1)) : Int).toNat 0 : List Int)).bind fun y168 => ((fletcher_Sum.f kj2 y168).bind fun bt169 => ((fletcher_reduce.f (wrap64 ((wrap64 ((l0.length : Int) - a1)) - 1))).bind fun t171 => ((fletcher_reduce.f (wrap64 ((wrap64 (t171 * bt169.1)) - bt169.2))).bind fun t172 => ((fletcher_reduce.f (wrap64 ((wrap64 (-bt169.1)) - t172))).bind fun t173 => (some (((y168.set (a1 : Int).toNat ((t172) % 256)).set ((wrap64 (a1 + 1)) : Int).toNat ((t173) % 256)), 0))))))) else (none)) else (none)) else (none)) else (none)) = some (r1, r2) := H
    have A6 := Aside0.mk A60
    clear A60
    by_cases c7 : 0 ≤ a1
    ·rw [if_pos c7] at H
     have c7b0 : decide (0 ≤ a1) = true := decide_eq_true c7
     clear c7
     by_cases c8 : a1 < (t164.length : Int)
     ·rw [if_pos c8] at H
      have c8b0 : decide (a1 < (t164.length : Int)) = true := decide_eq_true c8
      clear c8
      obtain ⟨y167, hy167⟩ : ∃ y_ : List Int, y_ = (t164.set (a1 : Int).toNat 0) := ⟨_, rfl⟩
      replace H : (if 0 ≤ (wrap64 (a1 + 1)) then (if (wrap64 (a1 + 1)) < (t164.length : Int) then ((some (y167.set ((wrap64 (a1 + 1)) : Int).toNat 0 : List Int)).bind fun y168 => ((fletcher_Sum.f kj2 y168).bind fun bt169 => ((fletcher_reduce.f (wrap64 ((wrap64 ((l0.length : Int) - a1)) - 1))).bind fun t171 => ((fletcher_reduce.f (wrap64 ((wrap64 (t171 * bt169.1)) - bt169.2))).bind fun t172 => ((fletcher_reduce.f (wrap64 ((wrap64 (-bt169.1)) - t172))).bind fun t173 => (some (((y168.set (a1 : Int).toNat ((t172) % 256)).set ((wrap64 (a1 + 1)) : Int).toNat ((t173) % 256)), 0))))))) else (none)) else (none)) = some (r1, r2) := by first | (rw [hy167]; with_reducible exact H) | (have H2_ := (Option.bind_some _ _).symm.trans H; rw [hy167]; with_reducible exact H2_) | (have H2_ := (Option.bind_some _ _).symm.trans H; with_reducible exact H2_) | with_reducible exact H | (rw [hy167]; exact H) | exact H
      have Ny167 := Aside0.mk hy167
      clear hy167
      obtain ⟨ji10, hji10⟩ : ∃ j_ : Int, (wrap64 (a1 + 1)) = j_ := ⟨_, rfl⟩
      replace H : (if 0 ≤ (ji10) then (if (ji10) < (t164.length : Int) then ((some (y167.set ((ji10) : Int).toNat 0 : List Int)).bind fun y168 => ((fletcher_Sum.f kj2 y168).bind fun bt169 => ((fletcher_reduce.f (wrap64 ((wrap64 ((l0.length : Int) - a1)) - 1))).bind fun t171 => ((fletcher_reduce.f (wrap64 ((wrap64 (t171 * bt169.1)) - bt169.2))).bind fun t172 => ((fletcher_reduce.f (wrap64 ((wrap64 (-bt169.1)) - t172))).bind fun t173 => (some (((y168.set (a1 : Int).toNat ((t172) % 256)).set ((ji10) : Int).toNat ((t173) % 256)), 0))))))) else (none)) else (none)) = some (r1, r2) := by first | (rw [hji10] at H; exact H) | (simp only [hji10] at H ⊢; exact H)
      (try rw [hji10] at A6)
      have hji10w : (IntKind.i64.wrap (a1 + 1)) = ji10 := (i64_w _).trans hji10
      by_cases c11 : 0 ≤ (ji10)
      ·rw [if_pos c11] at H
       have c11b0 : decide (0 ≤ (ji10)) = true := decide_eq_true c11
       clear c11
       by_cases c12 : (ji10) < (t164.length : Int)
       ·rw [if_pos c12] at H
        have c12b0 : decide ((ji10) < (t164.length : Int)) = true := decide_eq_true c12
        clear c12
        obtain ⟨y168, hy168⟩ : ∃ y_ : List Int, y_ = (y167.set ((ji10) : Int).toNat 0) := ⟨_, rfl⟩
        replace H : ((fletcher_Sum.f kj2 y168).bind fun bt169 => ((fletcher_reduce.f (wrap64 ((wrap64 ((l0.length : Int) - a1)) - 1))).bind fun t171 => ((fletcher_reduce.f (wrap64 ((wrap64 (t171 * bt169.1)) - bt169.2))).bind fun t172 => ((fletcher_reduce.f (wrap64 ((wrap64 (-bt169.1)) - t172))).bind fun t173 => (some (((y168.set (a1 : Int).toNat ((t172) % 256)).set ((ji10) : Int).toNat ((t173) % 256)), 0)))))) = some (r1, r2) := by first | (rw [hy168]; with_reducible exact H) | (have H2_ := (Option.bind_some _ _).symm.trans H; rw [hy168]; with_reducible exact H2_) | (have H2_ := (Option.bind_some _ _).symm.trans H; with_reducible exact H2_) | with_reducible exact H | (rw [hy168]; exact H) | exact H
        have Ny168 := Aside0.mk hy168
        clear hy168
        replace H := Option.bind_eq_some_iff.mp H
        obtain ⟨⟨t169, t170⟩, A140, H⟩ := H
        replace H : ((fletcher_reduce.f (wrap64 ((wrap64 ((l0.length : Int) - a1)) - 1))).bind fun t171 => ((fletcher_reduce.f (wrap64 ((wrap64 (t171 * t169)) - t170))).bind fun t172 => ((fletcher_reduce.f (wrap64 ((wrap64 (-t169)) - t172))).bind fun t173 => (some (((y168.set (a1 : Int).toNat ((t172) % 256)).set ((ji10) : Int).toNat ((t173) % 256)), 0))))) = some (r1, r2) := H
        have A14 := Aside0.mk A140
        clear A140
        replace H := Option.bind_eq_some_iff.mp H
        obtain ⟨t171, A150, H⟩ := H
        replace H : ((fletcher_reduce.f (wrap64 ((wrap64 (t171 * t169)) - t170))).bind fun t172 => ((fletcher_reduce.f (wrap64 ((wrap64 (-t169)) - t172))).bind fun t173 => (some (((y168.set (a1 : Int).toNat ((t172) % 256)).set ((ji10) : Int).toNat ((t173) % 256)), 0)))) = some (r1, r2) := H
        have A15 := Aside0.mk A150
        clear A150
        replace H := Option.bind_eq_some_iff.mp H
        obtain ⟨t172, A160, H⟩ := H
        replace H : ((fletcher_reduce.f (wrap64 ((wrap64 (-t169)) - t172))).bind fun t173 => (some (((y168.set (a1 : Int).toNat ((t172) % 256)).set ((ji10) : Int).toNat ((t173) % 256)), 0))) = some (r1, r2) := H
        have A16 := Aside0.mk A160
        clear A160
        replace H := Option.bind_eq_some_iff.mp H
        obtain ⟨t173, A170, H⟩ := H
        replace H : (some (((y168.set (a1 : Int).toNat ((t172) % 256)).set ((ji10) : Int).toNat ((t173) % 256)), 0)) = some (r1, r2) := H
        have A17 := Aside0.mk A170
        clear A170
        obtain ⟨y174, hy174⟩ : ∃ y_ : List Int, y_ = (y168.set (a1 : Int).toNat ((t172) % 256)) := ⟨_, rfl⟩
        replace H : (some ((y174.set ((ji10) : Int).toNat ((t173) % 256)), 0)) = some (r1, r2) := by first | (rw [hy174]; with_reducible exact H) | (have H2_ := (Option.bind_some _ _).symm.trans H; rw [hy174]; with_reducible exact H2_) | (have H2_ := (Option.bind_some _ _).symm.trans H; with_reducible exact H2_) | with_reducible exact H | (rw [hy174]; exact H) | exact H
        have Ny174 := Aside0.mk hy174
        clear hy174
        obtain ⟨y175, hy175⟩ : ∃ y_ : List Int, y_ = (y174.set ((ji10) : Int).toNat ((t173) % 256)) := ⟨_, rfl⟩
        replace H : (some (y175, 0)) = some (r1, r2) := by first | (rw [hy175]; with_reducible exact H) | (have H2_ := (Option.bind_some _ _).symm.trans H; rw [hy175]; with_reducible exact H2_) | (have H2_ := (Option.bind_some _ _).symm.trans H; with_reducible exact H2_) | with_reducible exact H | (rw [hy175]; exact H) | exact H
        have Ny175 := Aside0.mk hy175
        clear hy175
        simp only [Option.some.injEq, Prod.mk.injEq] at H
        obtain ⟨rfl, rfl⟩ := H
        go_wp2_with (first | ((with_reducible refine gate_callee (f := 65) rfl ?_); refine goesL_ (some 22) rfl rfl Try.func65 (by kernel_rfl) rfl #[.slice A0 l0.length c0] rfl (by (try simp only [List.map_toArray, List.map_cons, List.map_nil]); first | done | rfl | (simp only [List.length_drop, List.length_take]; rfl)) ?_; (with_reducible refine (slices_Clone_byte_byte.calls _ _ l0 t164 _ ?side1 ?side2 A6.out).mono ?_); (case side1 => exact cs_ HR0 HB); (case side2 => exact HC0.out); rintro e w20 ⟨v165, rfl, ho0, hb⟩; refine ⟨_, rfl, ?_⟩; have HO166 := Aside0.mk (Kd.R_lower ho0 (below_size (kw_ HB))); replace HB := bs_ HB hb; (try clear hb); (try clear hb2); (try clear hk); (try clear hi); (try clear ho0); have p9 : 0 ≤ (a1 : Int) := of_decide_eq_true (by first | (with_reducible assumption) | assumption); have q9 : (a1 : Int) < ((t164.length : Int) : Int) := of_decide_eq_true (by first | (with_reducible assumption) | assumption); obtain ⟨go9, co9, eo9, gb9, gl9, cl9, HG9⟩ := Kd.R_form HO166.out (by omega); (first | cases eo9 | (injection eo9 with ea_ en_ ec_; (first | subst ea_ | (injection ea_ with ea_; subst ea_)); subst ec_; clear en_)); have GB9 := Aside0.mk gb9; have GG9 := Aside0.mk HG9; clear gb9 gl9 HG9; obtain ⟨hx9_0, hf9_0⟩ := Kd.R_celln 0 HO166.out (a1 : Int) p9 q9; replace p9 := eq_true p9; replace q9 := eq_true q9; obtain ⟨hy21_, hz21_⟩ := Kd.R_celln 0 HO166.out (a1 : Int) (of_decide_eq_true (by first | (with_reducible assumption) | assumption)) (of_decide_eq_true (by first | (with_reducible assumption) | assumption)); have HP21 := Kd.R_putg HO166.out (a1 : Int) 0) | ((with_reducible refine gate_store (t := 5) (p := 28) rfl ?_); refine store_event (t := 5) (p := 28) (v := ?vo_w22) (w1 := (w20.setCell ⟨go9, (a1 : Int).toNat, none⟩ (.int .u8 0))) ?hg ?ho ?hn ?hr ?_; (case ho => rfl); (case hg => rfl); (case hn => rfl); (case hr => first | (go_simp; done) | (go_simp; rfl)); intro w22 hw; have hg : w20.grownBy w22 (some go9) := (by rw [hw]; exact HP21.2); have hp_ : Kd.R (Kd.int .u8) 5 w22 w.heap.size (fun _ => True) (.slice (some ⟨go9, 0, none⟩) t164.length co9) y167 := (by rw [hw, Ny167.out]; exact HP21.1); clear HP21; replace HO166 := Aside0.mk (hp_); replace HB := Aside0.mk ((by rw [hw]; exact below_set (HB.out) GB9.out : Below w.heap.size w w22)); clear hg hw hp_; have p13 : 0 ≤ ((ji10) : Int) := of_decide_eq_true (by first | (with_reducible assumption) | assumption); have q13 : ((ji10) : Int) < ((t164.length : Int) : Int) := of_decide_eq_true (by first | (with_reducible assumption) | assumption); obtain ⟨hx13_0, hf13_0⟩ := Kd.R_celln 0 HO166.out ((ji10) : Int) p13 q13; replace p13 := eq_true p13; replace q13 := eq_true q13; obtain ⟨hy23_, hz23_⟩ := Kd.R_celln 0 HO166.out ((ji10) : Int) (of_decide_eq_true (by first | (with_reducible assumption) | assumption)) (of_decide_eq_true (by first | (with_reducible assumption) | assumption)); have HP23 := Kd.R_putg HO166.out ((ji10) : Int) 0) | ((with_reducible refine gate_store (t := 5) (p := 29) rfl ?_); refine store_event (t := 5) (p := 29) (v := ?vo_w24) (w1 := (w22.setCell ⟨go9, ((ji10) : Int).toNat, none⟩ (.int .u8 0))) ?hg ?ho ?hn ?hr ?_; (case ho => rfl); (case hg => rfl); (case hn => rfl); (case hr => first | (go_simp; done) | (go_simp; rfl)); intro w24 hw; have hg : w22.grownBy w24 (some go9) := (by rw [hw]; exact HP23.2); have hp_ : Kd.R (Kd.int .u8) 5 w24 w.heap.size (fun _ => True) (.slice (some ⟨go9, 0, none⟩) t164.length co9) y168 := (by rw [hw, Ny168.out]; exact HP23.1); clear HP23; replace HO166 := Aside0.mk (hp_); replace HB := Aside0.mk ((by rw [hw]; exact below_set (HB.out) GB9.out : Below w.heap.size w w24)); clear hg hw hp_) | ((with_reducible refine gate_callee (f := 66) rfl ?_); refine goesL_ (some 32) rfl rfl Try.func66 (by kernel_rfl) rfl #[.slice (some ⟨go9, 0, none⟩) y168.length co9] rfl (by (try simp only [List.map_toArray, List.map_cons, List.map_nil]); first | done | (rw [show y168.length = t164.length from (Kd.R_reads' HO166.out).1.symm] <;> rfl) | rfl | (simp only [List.length_drop, List.length_take]; rfl)) ?_; (with_reducible refine (fletcher_Sum.calls kj2 _ _ y168 t169 t170 _ ?side1 ?side2 A14.out).mono ?_); (case side1 => repeat (first | exact (Kd.R_reads' HO166.out).2.2 | (with_reducible refine Kd.C_alloc ?_ _) | (with_reducible refine Kd.C_drewN ?_ _) | (with_reducible refine Kd.C_drew ?_))); (case side2 => rw [show y168.length = t164.length from (Kd.R_reads' HO166.out).1.symm]; exact (Kd.R_reads' HO166.out).2.1); rintro e w' ⟨rfl, ⟨nd, rfl⟩⟩; refine ⟨_, rfl, ?_⟩; (try (rw [drewN_self w24]; generalize hq_ : World.drewN w24 _ = w24; replace HO166 : Aside0 (Kd.R (Kd.int .u8) 5 w24 w.heap.size (fun _ => True) (.slice (some ⟨go9, 0, none⟩) t164.length co9) y168) := ⟨by rw [← hq_]; exact (by (with_reducible repeat (first | apply Kd.R_alloc | apply Kd.R_drewN | apply Kd.R_drew)); exact HO166.out)⟩; replace HB : Aside0 (Below w.heap.size w w24) := ⟨by rw [← hq_]; exact (kw_ HB)⟩; clear hq_))) | ((with_reducible refine gate_callee (f := 67) rfl ?_); refine goesL_ (some 41) rfl rfl Try.func67 (by kernel_rfl) rfl #[.int .i64 (wrap64 ((wrap64 ((l0.length : Int) - a1)) - 1))] rfl (by (try simp only [List.map_toArray, List.map_cons, List.map_nil]); first | done | rfl | (simp only [List.length_drop, List.length_take]; rfl)) ?_; (with_reducible refine (fletcher_reduce.calls (wrap64 ((wrap64 ((l0.length : Int) - a1)) - 1)) t171 _ A15.out).mono ?_); rintro e w' ⟨rfl, ⟨nd, rfl⟩⟩; refine ⟨_, rfl, ?_⟩; (try (rw [drewN_self w24]; generalize hq_ : World.drewN w24 _ = w24; replace HO166 : Aside0 (Kd.R (Kd.int .u8) 5 w24 w.heap.size (fun _ => True) (.slice (some ⟨go9, 0, none⟩) t164.length co9) y168) := ⟨by rw [← hq_]; exact (by (with_reducible repeat (first | apply Kd.R_alloc | apply Kd.R_drewN | apply Kd.R_drew)); exact HO166.out)⟩; replace HB : Aside0 (Below w.heap.size w w24) := ⟨by rw [← hq_]; exact (kw_ HB)⟩; clear hq_))) | ((with_reducible refine gate_callee (f := 67) rfl ?_); refine goesL_ (some 46) rfl rfl Try.func67 (by kernel_rfl) rfl #[.int .i64 (wrap64 ((wrap64 (t171 * t169)) - t170))] rfl (by (try simp only [List.map_toArray, List.map_cons, List.map_nil]); first | done | rfl | (simp only [List.length_drop, List.length_take]; rfl)) ?_; (with_reducible refine (fletcher_reduce.calls (wrap64 ((wrap64 (t171 * t169)) - t170)) t172 _ A16.out).mono ?_); rintro e w' ⟨rfl, ⟨nd, rfl⟩⟩; refine ⟨_, rfl, ?_⟩; (try (rw [drewN_self w24]; generalize hq_ : World.drewN w24 _ = w24; replace HO166 : Aside0 (Kd.R (Kd.int .u8) 5 w24 w.heap.size (fun _ => True) (.slice (some ⟨go9, 0, none⟩) t164.length co9) y168) := ⟨by rw [← hq_]; exact (by (with_reducible repeat (first | apply Kd.R_alloc | apply Kd.R_drewN | apply Kd.R_drew)); exact HO166.out)⟩; replace HB : Aside0 (Below w.heap.size w w24) := ⟨by rw [← hq_]; exact (kw_ HB)⟩; clear hq_))) | ((with_reducible refine gate_callee (f := 67) rfl ?_); refine goesL_ (some 51) rfl rfl Try.func67 (by kernel_rfl) rfl #[.int .i64 (wrap64 ((wrap64 (-t169)) - t172))] rfl (by (try simp only [List.map_toArray, List.map_cons, List.map_nil]); first | done | rfl | (simp only [List.length_drop, List.length_take]; rfl)) ?_; (with_reducible refine (fletcher_reduce.calls (wrap64 ((wrap64 (-t169)) - t172)) t173 _ A17.out).mono ?_); rintro e w' ⟨rfl, ⟨nd, rfl⟩⟩; refine ⟨_, rfl, ?_⟩; (try (rw [drewN_self w24]; generalize hq_ : World.drewN w24 _ = w24; replace HO166 : Aside0 (Kd.R (Kd.int .u8) 5 w24 w.heap.size (fun _ => True) (.slice (some ⟨go9, 0, none⟩) t164.length co9) y168) := ⟨by rw [← hq_]; exact (by (with_reducible repeat (first | apply Kd.R_alloc | apply Kd.R_drewN | apply Kd.R_drew)); exact HO166.out)⟩; replace HB : Aside0 (Below w.heap.size w w24) := ⟨by rw [← hq_]; exact (kw_ HB)⟩; clear hq_)); have p18 : 0 ≤ (a1 : Int) := of_decide_eq_true (by first | (with_reducible assumption) | assumption); have q18 : (a1 : Int) < ((t164.length : Int) : Int) := of_decide_eq_true (by first | (with_reducible assumption) | assumption); obtain ⟨hx18_0, hf18_0⟩ := Kd.R_celln 0 HO166.out (a1 : Int) p18 q18; replace p18 := eq_true p18; replace q18 := eq_true q18; obtain ⟨hy25_, hz25_⟩ := Kd.R_celln 0 HO166.out (a1 : Int) (of_decide_eq_true (by first | (with_reducible assumption) | assumption)) (of_decide_eq_true (by first | (with_reducible assumption) | assumption)); have HP25 := Kd.R_putg HO166.out (a1 : Int) ((t172) % 256)) | ((with_reducible refine gate_store (t := 5) (p := 61) rfl ?_); refine store_event (t := 5) (p := 61) (v := ?vo_w26) (w1 := (w24.setCell ⟨go9, (a1 : Int).toNat, none⟩ (.int .u8 ((t172) % 256)))) ?hg ?ho ?hn ?hr ?_; (case ho => rfl); (case hg => rfl); (case hn => rfl); (case hr => first | (go_simp; done) | (go_simp; rfl)); intro w26 hw; have hg : w24.grownBy w26 (some go9) := (by rw [hw]; exact HP25.2); have hp_ : Kd.R (Kd.int .u8) 5 w26 w.heap.size (fun _ => True) (.slice (some ⟨go9, 0, none⟩) t164.length co9) y174 := (by rw [hw, Ny174.out]; exact HP25.1); clear HP25; replace HO166 := Aside0.mk (hp_); replace HB := Aside0.mk ((by rw [hw]; exact below_set (HB.out) GB9.out : Below w.heap.size w w26)); clear hg hw hp_; have p19 : 0 ≤ ((ji10) : Int) := of_decide_eq_true (by first | (with_reducible assumption) | assumption); have q19 : ((ji10) : Int) < ((t164.length : Int) : Int) := of_decide_eq_true (by first | (with_reducible assumption) | assumption); obtain ⟨hx19_0, hf19_0⟩ := Kd.R_celln 0 HO166.out ((ji10) : Int) p19 q19; replace p19 := eq_true p19; replace q19 := eq_true q19; obtain ⟨hy27_, hz27_⟩ := Kd.R_celln 0 HO166.out ((ji10) : Int) (of_decide_eq_true (by first | (with_reducible assumption) | assumption)) (of_decide_eq_true (by first | (with_reducible assumption) | assumption)); have HP27 := Kd.R_putg HO166.out ((ji10) : Int) ((t173) % 256)) | ((with_reducible refine gate_store (t := 5) (p := 62) rfl ?_); refine store_event (t := 5) (p := 62) (v := ?vo_w28) (w1 := (w26.setCell ⟨go9, ((ji10) : Int).toNat, none⟩ (.int .u8 ((t173) % 256)))) ?hg ?ho ?hn ?hr ?_; (case ho => rfl); (case hg => rfl); (case hn => rfl); (case hr => first | (go_simp; done) | (go_simp; rfl)); intro w28 hw; have hg : w26.grownBy w28 (some go9) := (by rw [hw]; exact HP27.2); have hp_ : Kd.R (Kd.int .u8) 5 w28 w.heap.size (fun _ => True) (.slice (some ⟨go9, 0, none⟩) t164.length co9) y175 := (by rw [hw, Ny175.out]; exact HP27.1); clear HP27; replace HO166 := Aside0.mk (hp_); replace HB := Aside0.mk ((by rw [hw]; exact below_set (HB.out) GB9.out : Below w.heap.size w w28)); clear hg hw hp_))
        go_ret2
        exact ⟨_, by first | rfl | (simp [errW_none, errW_some] <;> rfl) | (simp only [← hji10]; first | rfl | (simp [errW_none, errW_some] <;> rfl)) | (simp [*, errW_none, errW_some] <;> rfl), by (with_reducible repeat (first | apply Kd.R_alloc | apply Kd.R_drewN | apply Kd.R_drew)); exact HO166.out, kw_ HB⟩
       ·rw [if_neg c12] at H
        exact absurd H (by simp)
      ·rw [if_neg c11] at H
       exact absurd H (by simp)
     ·rw [if_neg c8] at H
      exact absurd H (by simp)
    ·rw [if_neg c7] at H
     exact absurd H (by simp)

/-! ### lsa_Encode: function 54 -/
mutual
def lsa_Encode.l0 : Nat → List (S99) → List (S72) → Int → Int → Int → Int → Int → Bool → List (S72) → List (S76) → Option (List Int × Int)
 | 0, _, _, _, _, _, _, _, _, _, _ => none
 | k + 1, x4, x32, x33, x34, x177000, x177001, x177002, x177003, x177004, x177005 => if x34 < x33 then (if 0 ≤ x34 then (if x34 < (x32.length : Int) then ((lsa_value.f k (([(⟨(rd_T72 x32 x34).f0, 2⟩ : S96), (⟨(rd_T72 x32 x34).f1, 2⟩ : S96), (⟨(rd_T72 x32 x34).f2, 2⟩ : S96)] : List (S96)))).bind fun t193 => (if x4.length < 4398046511104 then (lsa_Encode.l0 k (x4 ++ [(⟨2, t193⟩ : S99)]) x32 x33 (wrap64 (x34 + 1)) x177000 x177001 x177002 x177003 x177004 x177005) else (none))) else (none)) else (none)) else (lsa_Encode.l1 k x4 x177005 (x177005.length : Int) 0)
def lsa_Encode.l1 : Nat → List (S99) → List (S76) → Int → Int → Option (List Int × Int)
 | 0, _, _, _, _ => none
 | k + 1, x4, x55, x56, x57 => if x57 < x56 then (if 0 ≤ x57 then (if x57 < (x55.length : Int) then ((lsa_value.f k (([(⟨wrap64 ((rd_T76 x55 x57).f0), 4⟩ : S96), (⟨(rd_T76 x55 x57).f1, 1⟩ : S96)] : List (S96)))).bind fun t204 => (if x4.length < 4398046511104 then (lsa_Encode.l1 k (x4 ++ [(⟨3, t204⟩ : S99)]) x55 x56 (wrap64 (x57 + 1))) else (none))) else (none)) else (none)) else (if 2 ≤ 281474976710656 then (if x4.length < 4398046511104 then ((codec_Encode.f k (x4 ++ [(⟨4, (List.replicate 2 0)⟩ : S99)])).bind fun bt216 => (if bt216.2 = 0 then ((fletcher_Seal.f k bt216.1 (wrap64 ((bt216.1.length : Int) - 2))).bind fun bt220 => (some (bt220.1, bt220.2))) else (some (([] : List Int), bt216.2)))) else (none)) else (none))
end
def lsa_Encode.f (k : Nat) (a0_0 : Int) (a0_1 : Int) (a0_2 : Int) (a0_3 : Bool) (l0_4 : List (S72)) (l0_5 : List (S76)) : Option (List Int × Int) := (lsa_Valid.f k a0_0 a0_1 a0_2 a0_3 l0_4 l0_5).bind fun t177 => (if t177 = true then ((lsa_flag.f a0_3).bind fun t178 => ((lsa_value.f k (([(⟨a0_0, 2⟩ : S96), (⟨a0_1, 4⟩ : S96), (⟨a0_2, 2⟩ : S96), (⟨t178, 1⟩ : S96)] : List (S96)))).bind fun t182 => (lsa_Encode.l0 k (([(⟨1, t182⟩ : S99)] : List (S99))) l0_4 (l0_4.length : Int) 0 a0_0 a0_1 a0_2 a0_3 l0_4 l0_5))) else (some (([] : List Int), 1)))
theorem lsa_Encode.mono_l : ∀ k, (∀ y0 y1 y2 y3 y4 y5 y6 y7 y8 y9, LeO (lsa_Encode.l0 k y0 y1 y2 y3 y4 y5 y6 y7 y8 y9) (lsa_Encode.l0 (k + 1) y0 y1 y2 y3 y4 y5 y6 y7 y8 y9)) ∧ (∀ y0 y1 y2 y3, LeO (lsa_Encode.l1 k y0 y1 y2 y3) (lsa_Encode.l1 (k + 1) y0 y1 y2 y3))
 | 0 => ⟨fun _ _ _ _ _ _ _ _ _ _ r h => by simp [lsa_Encode.l0] at h, fun _ _ _ _ r h => by simp [lsa_Encode.l1] at h⟩
 | k + 1 => by
  obtain ⟨ih0, ih1⟩ := lsa_Encode.mono_l k
  refine ⟨?_, ?_⟩
  ·intro y0 y1 y2 y3 y4 y5 y6 y7 y8 y9
   unfold lsa_Encode.l0
   repeat' first
   | (with_reducible exact ih0 _ _ _ _ _ _ _ _ _ _)
   | (with_reducible exact ih1 _ _ _ _)
   | (with_reducible exact codec_Encode.mono _ _)
   | (with_reducible exact fletcher_Seal.mono _ _ _)
   | (with_reducible exact lsa_Valid.mono _ _ _ _ _ _ _)
   | (with_reducible exact lsa_value.mono _ _)
   | (with_reducible exact LeO.refl _)
   | (with_reducible exact LeO.none _)
   | (with_reducible refine LeO.ite ?_ ?_)
   | (with_reducible refine LeO.bind ?_ (fun _ => ?_))
   | exact ih0 _ _ _ _ _ _ _ _ _ _
   | exact ih1 _ _ _ _
   | exact codec_Encode.mono _ _
   | exact fletcher_Seal.mono _ _ _
   | exact lsa_Valid.mono _ _ _ _ _ _ _
   | exact lsa_value.mono _ _
   | exact LeO.none _
   | refine LeO.ite ?_ ?_
   | refine LeO.bind ?_ (fun _ => ?_)
  ·intro y0 y1 y2 y3
   unfold lsa_Encode.l1
   repeat' first
   | (with_reducible exact ih0 _ _ _ _ _ _ _ _ _ _)
   | (with_reducible exact ih1 _ _ _ _)
   | (with_reducible exact codec_Encode.mono _ _)
   | (with_reducible exact fletcher_Seal.mono _ _ _)
   | (with_reducible exact lsa_Valid.mono _ _ _ _ _ _ _)
   | (with_reducible exact lsa_value.mono _ _)
   | (with_reducible exact LeO.refl _)
   | (with_reducible exact LeO.none _)
   | (with_reducible refine LeO.ite ?_ ?_)
   | (with_reducible refine LeO.bind ?_ (fun _ => ?_))
   | exact ih0 _ _ _ _ _ _ _ _ _ _
   | exact ih1 _ _ _ _
   | exact codec_Encode.mono _ _
   | exact fletcher_Seal.mono _ _ _
   | exact lsa_Valid.mono _ _ _ _ _ _ _
   | exact lsa_value.mono _ _
   | exact LeO.none _
   | refine LeO.ite ?_ ?_
   | refine LeO.bind ?_ (fun _ => ?_)
theorem lsa_Encode.mono : ∀ a0 a1 a2 a3 a4 a5 k, LeO (lsa_Encode.f k a0 a1 a2 a3 a4 a5) (lsa_Encode.f (k + 1) a0 a1 a2 a3 a4 a5) := by
 intro a0 a1 a2 a3 a4 a5 k
 obtain ⟨ih0, ih1⟩ := lsa_Encode.mono_l k
 unfold lsa_Encode.f
 repeat' first
   | (with_reducible exact ih0 _ _ _ _ _ _ _ _ _ _)
   | (with_reducible exact ih1 _ _ _ _)
   | (with_reducible exact codec_Encode.mono _ _)
   | (with_reducible exact fletcher_Seal.mono _ _ _)
   | (with_reducible exact lsa_Valid.mono _ _ _ _ _ _ _)
   | (with_reducible exact lsa_value.mono _ _)
   | (with_reducible exact LeO.refl _)
   | (with_reducible exact LeO.none _)
   | (with_reducible refine LeO.ite ?_ ?_)
   | (with_reducible refine LeO.bind ?_ (fun _ => ?_))
   | exact ih0 _ _ _ _ _ _ _ _ _ _
   | exact ih1 _ _ _ _
   | exact codec_Encode.mono _ _
   | exact fletcher_Seal.mono _ _ _
   | exact lsa_Valid.mono _ _ _ _ _ _ _
   | exact lsa_value.mono _ _
   | exact LeO.none _
   | refine LeO.ite ?_ ?_
   | refine LeO.bind ?_ (fun _ => ?_)
def lsa_Encode.T3 : Bool × List (List Nat × List Nat) := (true, [([], []), ([0], [0]), ([1], [1]), ([], []), ([3], [3]), ([4], [4]), ([], []), ([6], [6]), ([7], [7]), ([], []), ([9], [9]), ([10], [10]), ([11], [11]), ([2, 5, 8, 12], [2, 5, 8, 12]), ([13, 11], [13]), ([14], [14]), ([15], [15]), ([16, 14, 0, 1, 2, 3, 4, 5, 6, 7, 8, 9, 10, 11, 12, 13, 14, 15, 16], [16])])
def lsa_Encode.B3 : List Nat := [0, 1, 3, 0, 8, 24, 0, 64, 192, 0, 512, 1536, 3584, 8191, 16383, 32767, 65535, 131071]
theorem lsa_Encode.tab3 : rtab .any (opsOf Try.f54 3) = lsa_Encode.T3 := by kernel_rfl
theorem lsa_Encode.bits3 : waitsOk lsa_Encode.T3.2 lsa_Encode.B3 = true := by kernel_rfl
set_option maxHeartbeats 8000000 in
set_option maxRecDepth 100000 in
theorem lsa_Encode.calls (k : Nat) (a0_0 : Int) (a0_1 : Int) (a0_2 : Int) (a0_3 : Bool) (A0_4 : Option Addr) (c0_4 : Nat) (l0_4 : List (S72)) (A0_5 : Option Addr) (c0_5 : Nat) (l0_5 : List (S76)) (r1 : List Int) (r2 : Int) (w : World) (hr0_4 : Kd.C k72 w A0_4 l0_4.length l0_4) (hc0_4 : l0_4.length ≤ c0_4) (hr0_5 : Kd.C k76 w A0_5 l0_5.length l0_5) (hc0_5 : l0_5.length ≤ c0_5) (h : lsa_Encode.f k a0_0 a0_1 a0_2 a0_3 l0_4 l0_5 = some (r1, r2)) :
  Calls Try.prog 54 #[.agg #[.int .i64 a0_0, .int .i64 a0_1, .int .i64 a0_2, .bool a0_3, .slice A0_4 l0_4.length c0_4, .slice A0_5 l0_5.length c0_5]] w fun e w' => ∃ v0_ : Value, e = .returned (.tuple #[v0_, .int .i64 r2]) ∧ Kd.R (Kd.int .u8) 5 w' w.heap.size (fun _ => True) v0_ r1 ∧ Below w.heap.size w w' := by
 have hu32 := Try.underlying32
 have hu96 := Try.underlying96
 have hu99 := Try.underlying99
 have hu72 := Try.underlying72
 have hu76 := Try.underlying76
 have HR0_4 := Aside0.mk hr0_4
 have HC0_4 := Aside0.mk hc0_4
 clear hr0_4 hc0_4
 have HR0_5 := Aside0.mk hr0_5
 have HC0_5 := Aside0.mk hc0_5
 clear hr0_5 hc0_5
 have HB := Aside0.mk (Below.refl w.heap.size w)
 have H : ((lsa_Valid.f k a0_0 a0_1 a0_2 a0_3 l0_4 l0_5).bind fun t177 => (if t177 = true then ((lsa_flag.f a0_3).bind fun t178 => ((lsa_value.f k (([(⟨a0_0, 2⟩ : S96), (⟨a0_1, 4⟩ : S96), (⟨a0_2, 2⟩ : S96), (⟨t178, 1⟩ : S96)] : List (S96)))).bind fun t182 => (lsa_Encode.l0 k (([(⟨1, t182⟩ : S99)] : List (S99))) l0_4 (l0_4.length : Int) 0 a0_0 a0_1 a0_2 a0_3 l0_4 l0_5))) else (some (([] : List Int), 1)))) = some (r1, r2) := h
 clear h
 replace H := Option.bind_eq_some_iff.mp H
 obtain ⟨t177, A20, H⟩ := H
 replace H : (if t177 = true then ((lsa_flag.f a0_3).bind fun t178 => ((lsa_value.f k (([(⟨a0_0, 2⟩ : S96), (⟨a0_1, 4⟩ : S96), (⟨a0_2, 2⟩ : S96), (⟨t178, 1⟩ : S96)] : List (S96)))).bind fun t182 => (lsa_Encode.l0 k (([(⟨1, t182⟩ : S99)] : List (S99))) l0_4 (l0_4.length : Int) 0 a0_0 a0_1 a0_2 a0_3 l0_4 l0_5))) else (some (([] : List Int), 1))) = some (r1, r2) := H
 have A2 := Aside0.mk A20
 clear A20
 by_cases c3 : t177 = true
 ·subst c3
  have H1 : ((lsa_flag.f a0_3).bind fun t178 => ((lsa_value.f k (([(⟨a0_0, 2⟩ : S96), (⟨a0_1, 4⟩ : S96), (⟨a0_2, 2⟩ : S96), (⟨t178, 1⟩ : S96)] : List (S96)))).bind fun t182 => (lsa_Encode.l0 k (([(⟨1, t182⟩ : S99)] : List (S99))) l0_4 (l0_4.length : Int) 0 a0_0 a0_1 a0_2 a0_3 l0_4 l0_5))) = some (r1, r2) := by rw [if_pos rfl] at H; exact H
  clear H
  have H := H1
  clear H1
  replace H := Option.bind_eq_some_iff.mp H
  obtain ⟨t178, A40, H⟩ := H
  replace H : ((lsa_value.f k (([(⟨a0_0, 2⟩ : S96), (⟨a0_1, 4⟩ : S96), (⟨a0_2, 2⟩ : S96), (⟨t178, 1⟩ : S96)] : List (S96)))).bind fun t182 => (lsa_Encode.l0 k (([(⟨1, t182⟩ : S99)] : List (S99))) l0_4 (l0_4.length : Int) 0 a0_0 a0_1 a0_2 a0_3 l0_4 l0_5)) = some (r1, r2) := H
  have A4 := Aside0.mk A40
  clear A40
  obtain ⟨y179, hy179⟩ : ∃ y_ : List (S96), y_ = (([(⟨a0_0, 2⟩ : S96), (⟨a0_1, 4⟩ : S96), (⟨a0_2, 2⟩ : S96), (⟨t178, 1⟩ : S96)] : List (S96))) := ⟨_, rfl⟩
  replace H : ((lsa_value.f k y179).bind fun t182 => (lsa_Encode.l0 k (([(⟨1, t182⟩ : S99)] : List (S99))) l0_4 (l0_4.length : Int) 0 a0_0 a0_1 a0_2 a0_3 l0_4 l0_5)) = some (r1, r2) := by first | (rw [hy179]; with_reducible exact H) | (have H2_ := (Option.bind_some _ _).symm.trans H; rw [hy179]; with_reducible exact H2_) | (have H2_ := (Option.bind_some _ _).symm.trans H; with_reducible exact H2_) | with_reducible exact H | (rw [hy179]; exact H) | exact H
  have Ny179 := Aside0.mk hy179
  clear hy179
  replace H := Option.bind_eq_some_iff.mp H
  obtain ⟨t182, A50, H⟩ := H
  replace H : (lsa_Encode.l0 k (([(⟨1, t182⟩ : S99)] : List (S99))) l0_4 (l0_4.length : Int) 0 a0_0 a0_1 a0_2 a0_3 l0_4 l0_5) = some (r1, r2) := H
  have A5 := Aside0.mk A50
  clear A50
  obtain ⟨y185, hy185⟩ : ∃ y_ : List (S99), y_ = (([(⟨1, t182⟩ : S99)] : List (S99))) := ⟨_, rfl⟩
  replace H : (lsa_Encode.l0 k y185 l0_4 (l0_4.length : Int) 0 a0_0 a0_1 a0_2 a0_3 l0_4 l0_5) = some (r1, r2) := by first | (rw [hy185]; with_reducible exact H) | (have H2_ := (Option.bind_some _ _).symm.trans H; rw [hy185]; with_reducible exact H2_) | (have H2_ := (Option.bind_some _ _).symm.trans H; with_reducible exact H2_) | with_reducible exact H | (rw [hy185]; exact H) | exact H
  have Ny185 := Aside0.mk hy185
  clear hy185
  have H' := Aside0.mk H
  clear H
  go_enter Try.func54, Try.ntmps54
  try go_wp2_with (first | ((with_reducible refine gate_dst (N := 1) rfl ?_); refine bx_ 1 #[.int .i64 a0_0, .int .i64 a0_1, .int .i64 a0_2, .bool a0_3, .slice A0_4 l0_4.length c0_4, .slice A0_5 l0_5.length c0_5] 32 rfl rfl ?hr ?_; (case hr => go_simp; try rfl); intro gb176 hg w6 hbox hb; have BK176 := Aside0.mk (hbox); have GW176 := gs_ HB hg; have GE176 := gs_ HB hg; replace HB := bs_ HB hb; clear hb hbox hg; obtain ⟨hcz7_0, hcz7_1, hcz7_2, hcz7_3, hcz7_4, hcz7_5, hfz7_0, hfz7_1, hfz7_2, hfz7_3, hfz7_4, hfz7_5⟩ := c6_ BK176) | ((with_reducible refine gate_callee (f := 20) rfl ?_); refine goesL_ (some 12) rfl rfl Try.func20 (by kernel_rfl) rfl #[.agg #[.int .i64 a0_0, .int .i64 a0_1, .int .i64 a0_2, .bool a0_3, .slice A0_4 l0_4.length c0_4, .slice A0_5 l0_5.length c0_5]] rfl (by (try simp only [List.map_toArray, List.map_cons, List.map_nil]); first | done | rfl | (simp only [List.length_drop, List.length_take]; rfl)) ?_; (with_reducible refine (lsa_Valid.calls k a0_0 a0_1 a0_2 a0_3 _ _ l0_4 _ _ l0_5 true _ ?side1 ?side2 ?side3 ?side4 A2.out).mono ?_); (case side1 => exact cs_ HR0_4 HB); (case side2 => exact HC0_4.out); (case side3 => exact cs_ HR0_5 HB); (case side4 => exact HC0_5.out); rintro e w8 ⟨rfl, hb⟩; refine ⟨_, rfl, ?_⟩; replace BK176 := bb_ BK176 hb; replace HB := Aside0.mk (below_step (by repeat (first | (with_reducible first | exact HB.out | apply bU | apply bS GE176.out) | exact HB.out)) hb); (try clear hb); (try clear hb2); (try clear hk); (try clear hi)))
  replace BK176 := Aside0.mk (blk_drew BK176.out)
  replace HB := Aside0.mk (below_drew1 HB.out)
  refine start_ (n := 18) (S := fun w' => w'.cell? ⟨gb176, 0, none⟩ = some (.int .i64 a0_0) ∧ w'.cell? ⟨gb176, 1, none⟩ = some (.int .i64 a0_1) ∧ w'.cell? ⟨gb176, 2, none⟩ = some (.int .i64 a0_2) ∧ w'.cell? ⟨gb176, 3, none⟩ = some (.bool a0_3) ∧ w'.cell? ⟨gb176, 4, none⟩ = some (.slice A0_4 l0_4.length c0_4) ∧ w'.cell? ⟨gb176, 5, none⟩ = some (.slice A0_5 l0_5.length c0_5)) (ds := []) #[false, false, false, false, false, false, false, false, false, false, false, false, false, false, false, false, false, false] (by kernel_rfl) rfl rfl ⟨(blk_cell BK176.out 0).trans rfl, (blk_cell BK176.out 1).trans rfl, (blk_cell BK176.out 2).trans rfl, (blk_cell BK176.out 3).trans rfl, (blk_cell BK176.out 4).trans rfl, (blk_cell BK176.out 5).trans rfl⟩ (fun hHeld => ?_); refine with_tabW lsa_Encode.tab3 lsa_Encode.bits3 (fun HT_ HW_ => ?_)
  generalize w8.drew = w9 at BK176 HB hHeld ⊢
  refine py 0 14 HT_ ?_
  refine py 3 17 HT_ ?_
  refine py 6 20 HT_ ?_
  refine py 9 23 HT_ ?_
  refine ty 1 15 HT_ HW_ rfl (Or.inl ⟨by rfl, by rintro w' ⟨s0, s1, s2, s3, s4, s5⟩; go_simp; with_reducible rfl⟩) hHeld ?_
  refine py 2 16 HT_ ?_
  refine ty 4 18 HT_ HW_ rfl (Or.inl ⟨by rfl, by rintro w' ⟨s0, s1, s2, s3, s4, s5⟩; go_simp; with_reducible rfl⟩) hHeld ?_
  refine py 5 19 HT_ ?_
  refine ty 7 21 HT_ HW_ rfl (Or.inl ⟨by rfl, by rintro w' ⟨s0, s1, s2, s3, s4, s5⟩; go_simp; with_reducible rfl⟩) hHeld ?_
  refine py 8 22 HT_ ?_
  refine ty 10 24 HT_ HW_ rfl (Or.inl ⟨by rfl, by rintro w' ⟨s0, s1, s2, s3, s4, s5⟩; go_simp; with_reducible rfl⟩) hHeld ?_
  refine one_ (i := 11) (N := some 25) #[true, true, true, true, true, true, true, true, true, true, true, true, false, false, false, false, false, false] rfl rfl (one_of HT_.out (by kernel_rfl)) (by decide) (fun K hK => ?_)
  refine goes_ Try.func52 (by kernel_rfl) rfl #[.bool a0_3] (by rfl) rfl rfl (by (try simp only [List.map_toArray, List.map_cons, List.map_nil]); first | done | rfl | (simp only [List.length_drop, List.length_take]; rfl)) ?_
  with_reducible refine (lsa_flag.calls a0_3 t178 _ A4.out).mono ?_
  rintro e w' ⟨rfl, ⟨nd, rfl⟩⟩
  refine ⟨_, rfl, ?_⟩
  refine hK.out _ _ ⟨(blk_cell BK176.out 0).trans rfl, (blk_cell BK176.out 1).trans rfl, (blk_cell BK176.out 2).trans rfl, (blk_cell BK176.out 3).trans rfl, (blk_cell BK176.out 4).trans rfl, (blk_cell BK176.out 5).trans rfl⟩ (fun hHeld => ?_)
  clear hK K
  refine norm_ (a' := ?_) ?_ ?_
  rotate_left
  ·show Act.put _ (some 25) _ = _
   simp only [Act.put, List.setIfInBounds_toArray, List.set_cons_zero, List.set_cons_succ, i64_w, i32_w]
   rfl
  refine py 12 26 HT_ ?_
  refine one_ (i := 13) (N := some 27) #[true, true, true, true, true, true, true, true, true, true, true, true, true, true, false, false, false, false] rfl rfl (one_of HT_.out (by kernel_rfl)) (by decide) (fun K hK => ?_)
  refine Kd.R_lit_step k96 _ 96 ?hg (N := 27) ?hd (xs := ([(⟨a0_0, 2⟩ : S96), (⟨a0_1, 4⟩ : S96), (⟨a0_2, 2⟩ : S96), (⟨t178, 1⟩ : S96)] : List (S96))) (inner := [.int .i64 a0_0, .int .i64 2, .int .i64 a0_1, .int .i64 4, .int .i64 a0_2, .int .i64 2, .int .i64 t178, .int .i64 1]) (ok := fun _ => True) (okp := fun _ => True) ?hr ?hp (fun _ hk => hk) trivial (Below.refl _ _) (Nat.le_refl _) (by simp) ?_; (case hd => rfl); (case hg => rfl); (case hr => first | (go_simp; done) | (go_simp; rfl)); (case hp => exact (Reps.c2 (show Kd.M k96 _ _ _ (⟨a0_0, 2⟩ : S96) [.int .i64 a0_0, .int .i64 2] from (k96_mkM _ _ _ (⟨a0_0, 2⟩ : S96) )) (Reps.c2 (show Kd.M k96 _ _ _ (⟨a0_1, 4⟩ : S96) [.int .i64 a0_1, .int .i64 4] from (k96_mkM _ _ _ (⟨a0_1, 4⟩ : S96) )) (Reps.c2 (show Kd.M k96 _ _ _ (⟨a0_2, 2⟩ : S96) [.int .i64 a0_2, .int .i64 2] from (k96_mkM _ _ _ (⟨a0_2, 2⟩ : S96) )) (Reps.c2 (show Kd.M k96 _ _ _ (⟨t178, 1⟩ : S96) [.int .i64 t178, .int .i64 1] from (k96_mkM _ _ _ (⟨t178, 1⟩ : S96) )) (Reps.none _ _))))))
  intro v180 w10 ho11 hb hg_ hnew_
  clear hg_ hnew_
  (first | rw [← Ny179.out] at ho11 | (simp only [Int.reduceToNat] at ho11; rw [← Ny179.out] at ho11))
  have HO181 := Aside0.mk (Kd.R_lower ho11 (below_size (by repeat (first | (with_reducible first | exact HB.out | apply bU | apply bS GE176.out) | exact HB.out))))
  replace BK176 := bb_ BK176 hb
  replace HB := Aside0.mk (below_step (by repeat (first | (with_reducible first | exact HB.out | apply bU | apply bS GE176.out) | exact HB.out)) hb)
  clear hb ho11
  obtain ⟨Ao12, co12, eo12⟩ := Kd.R_slice HO181.out
  (first | subst eo12 | (injection eo12 with f1_ f2_ f3_; have f4_ := f1_.symm; have f5_ := f3_.symm; clear f1_ f2_ f3_; subst f4_; subst f5_))
  refine hK.out _ _ ⟨(blk_cell BK176.out 0).trans rfl, (blk_cell BK176.out 1).trans rfl, (blk_cell BK176.out 2).trans rfl, (blk_cell BK176.out 3).trans rfl, (blk_cell BK176.out 4).trans rfl, (blk_cell BK176.out 5).trans rfl⟩ (fun hHeld => ?_)
  clear hK K
  refine norm_ (a' := ?_) ?_ ?_
  rotate_left
  ·show Act.put _ (some 27) _ = _
   simp only [Act.put, List.setIfInBounds_toArray, List.set_cons_zero, List.set_cons_succ, i64_w, i32_w]
   rfl
  refine one_ (i := 14) (N := some 28) #[true, true, true, true, true, true, true, true, true, true, true, true, true, true, true, false, false, false] rfl rfl (one_of HT_.out (by kernel_rfl)) (by decide) (fun K hK => ?_)
  refine goes_ Try.func57 (by kernel_rfl) rfl #[.slice Ao12 y179.length co12] (by rfl) rfl rfl (by (try simp only [List.map_toArray, List.map_cons, List.map_nil]); first | done | rfl | (simp only [List.length_drop, List.length_take]; rfl)) ?_
  with_reducible refine (lsa_value.calls k _ _ y179 t182 _ ?side1 ?side2 A5.out).mono ?_
  (case side1 => repeat (first | exact (Kd.R_reads' HO181.out).2.2 | (with_reducible refine Kd.C_alloc ?_ _) | (with_reducible refine Kd.C_drewN ?_ _) | (with_reducible refine Kd.C_drew ?_)))
  (case side2 => exact (Kd.R_reads' HO181.out).2.1)
  rintro e w13 ⟨v183, rfl, ho0, hb⟩
  refine ⟨_, rfl, ?_⟩
  have HO184 := Aside0.mk (Kd.R_lower ho0 (below_size (by repeat (first | (with_reducible first | exact HB.out | apply bU | apply bS GE176.out) | exact HB.out))))
  replace HO181 := Aside0.mk (Kd.R_below (by (with_reducible repeat (first | apply Kd.R_alloc | apply Kd.R_drewN | apply Kd.R_drew)); exact HO181.out) hb)
  replace BK176 := bb_ BK176 hb
  replace HB := Aside0.mk (below_step (by repeat (first | (with_reducible first | exact HB.out | apply bU | apply bS GE176.out) | exact HB.out)) hb)
  (try clear hb)
  (try clear hb2)
  (try clear hk)
  (try clear hi)
  (try clear ho0)
  obtain ⟨Ao14, co14, eo14⟩ := Kd.R_slice HO184.out
  (first | subst eo14 | (injection eo14 with f1_ f2_ f3_; have f4_ := f1_.symm; have f5_ := f3_.symm; clear f1_ f2_ f3_; subst f4_; subst f5_))
  refine hK.out _ _ ⟨(blk_cell BK176.out 0).trans rfl, (blk_cell BK176.out 1).trans rfl, (blk_cell BK176.out 2).trans rfl, (blk_cell BK176.out 3).trans rfl, (blk_cell BK176.out 4).trans rfl, (blk_cell BK176.out 5).trans rfl⟩ (fun hHeld => ?_)
  clear hK K
  refine norm_ (a' := ?_) ?_ ?_
  rotate_left
  ·show Act.put _ (some 28) _ = _
   simp only [Act.put, List.setIfInBounds_toArray, List.set_cons_zero, List.set_cons_succ, i64_w, i32_w]
   rfl
  refine py 15 29 HT_ ?_
  refine one_ (i := 16) (N := some 30) #[true, true, true, true, true, true, true, true, true, true, true, true, true, true, true, true, true, false] rfl rfl (one_of HT_.out (by kernel_rfl)) (by decide) (fun K hK => ?_)
  refine Kd.N_lit_step k99 _ 99 ?hg (N' := 30) ?hd (xs := ([(⟨1, t182⟩ : S99)] : List (S99))) (inner := [.int .i64 1, .slice Ao14 t182.length co14]) (ok := (fun k_ => some k_ ≠ (.slice Ao12 y179.length co12 : Value).ownBlock ∧ k_ ≠ gb176)) (okp := (fun k_ => some k_ ≠ (.slice Ao12 y179.length co12 : Value).ownBlock ∧ k_ ≠ gb176)) ?hr ?hp (fun _ hk => hk) ((show ∀ k_, w13.heap.size ≤ k_ → (fun k_ => some k_ ≠ (.slice Ao12 y179.length co12 : Value).ownBlock ∧ k_ ≠ gb176) k_ from fun k_ hk => ⟨Kd.fresh' (Kd.R_lt (by (with_reducible repeat (first | apply Kd.R_alloc | apply Kd.R_drewN | apply Kd.R_drew)); exact HO181.out)) k_ hk, Kd.freshB (g := gb176) (o := .cells #[.int .i64 a0_0, .int .i64 a0_1, .int .i64 a0_2, .bool a0_3, .slice A0_4 l0_4.length c0_4, .slice A0_5 l0_5.length c0_5] 32 (0, 0)) (kb_ BK176) k_ hk⟩) _ (Nat.le_refl _)) (Below.refl _ _) (Nat.le_refl _) (by simp) ?_; (case hd => rfl); (case hg => rfl); (case hr => first | (go_simp; done) | (go_simp; rfl)); (case hp => exact (Reps.c2 (show Kd.FK k99 _ _ (⟨1, t182⟩ : S99) [.int .i64 1, .slice Ao14 t182.length co14] from (k99_mkF _ _ (⟨1, t182⟩ : S99) (Kd.R_reads' (Kd.R_mono (ok' := (fun k_ => some k_ ≠ (.slice Ao12 y179.length co12 : Value).ownBlock ∧ k_ ≠ gb176)) (Kd.R_types (Kd.R_apart' (HO184.out) (Kd.R_typed HO181.out) (by decide)) BK176.out (by decide)) (fun k_ hk => ⟨hk.1.2, hk.2⟩))).2.1 (Kd.R_F (Kd.R_mono (ok' := (fun k_ => some k_ ≠ (.slice Ao12 y179.length co12 : Value).ownBlock ∧ k_ ≠ gb176)) (Kd.R_types (Kd.R_apart' (HO184.out) (Kd.R_typed HO181.out) (by decide)) BK176.out (by decide)) (fun k_ hk => ⟨hk.1.2, hk.2⟩))))) (Reps.none _ _)))
  intro v186 w15 ho16 hb hg_ hnew_
  clear hg_ hnew_
  (first | rw [← Ny185.out] at ho16 | (simp only [Int.reduceToNat] at ho16; rw [← Ny185.out] at ho16))
  have HO187 := Aside0.mk (Kd.N_lower ho16 (below_size (by repeat (first | (with_reducible first | exact HB.out | apply bU | apply bS GE176.out) | exact HB.out))))
  replace HO181 := Aside0.mk (Kd.R_below (by (with_reducible repeat (first | apply Kd.R_alloc | apply Kd.R_drewN | apply Kd.R_drew)); exact HO181.out) hb)
  replace BK176 := bb_ BK176 hb
  replace HB := Aside0.mk (below_step (by repeat (first | (with_reducible first | exact HB.out | apply bU | apply bS GE176.out) | exact HB.out)) hb)
  clear HO184
  clear hb ho16
  refine hK.out _ _ ⟨(blk_cell BK176.out 0).trans rfl, (blk_cell BK176.out 1).trans rfl, (blk_cell BK176.out 2).trans rfl, (blk_cell BK176.out 3).trans rfl, (blk_cell BK176.out 4).trans rfl, (blk_cell BK176.out 5).trans rfl⟩ (fun hHeld => ?_)
  clear hK K
  refine norm_ (a' := ?_) ?_ ?_
  rotate_left
  ·show Act.put _ (some 30) _ = _
   simp only [Act.put, List.setIfInBounds_toArray, List.set_cons_zero, List.set_cons_succ, i64_w, i32_w]
   rfl
  refine py 17 4 HT_ ?_
  refine done_ (done_of HT_.out (by kernel_rfl)) ?_
  obtain ⟨hcz17_0, hcz17_1, hcz17_2, hcz17_3, hcz17_4, hcz17_5, hfz17_0, hfz17_1, hfz17_2, hfz17_3, hfz17_4, hfz17_5⟩ := c6_ BK176
  try go_wp2
  go_loopg [4, 34] k (fun kq v4 v34 w' => ∃ (x4_1 : List (S99)) (x34_1 : Int), v34 = .int .i64 x34_1 ∧ Aside0 (lsa_Encode.l0 kq x4_1 l0_4 (l0_4.length : Int) x34_1 a0_0 a0_1 a0_2 a0_3 l0_4 l0_5 = some (r1, r2)) ∧ Aside0 (kq ≤ k) ∧ Aside0 (Kd.N k99 99 w' w.heap.size (fun k_ => k_ ≠ gb176) v4 x4_1) ∧ Aside0 (w'.heap[gb176]? = some (.cells #[.int .i64 a0_0, .int .i64 a0_1, .int .i64 a0_2, .bool a0_3, (.slice A0_4 l0_4.length c0_4), (.slice A0_5 l0_5.length c0_5)] 32 (0, 0))) ∧ Aside0 (Below w.heap.size w w'))
  case atStart => exact ⟨(y185), (0), (by first | rfl | (simp; done) | (simp [*]; done)), H', ⟨Nat.le_refl _⟩, ⟨by (with_reducible repeat (first | apply Kd.N_alloc | apply Kd.N_drewN | apply Kd.N_drew)); exact Kd.N_mono HO187.out (fun _ hk => hk.2)⟩, ⟨kb_ BK176⟩, ⟨by repeat (first | (with_reducible first | exact HB.out | apply bU | apply bS GE176.out) | exact HB.out)⟩⟩
  case round =>
   clear H'
   (try clear c2); (try clear c3); (try clear hcz17_0); (try clear hcz17_1); (try clear hcz17_2); (try clear hcz17_3); (try clear hcz17_4); (try clear hcz17_5); (try clear hcz7_0); (try clear hcz7_1); (try clear hcz7_2); (try clear hcz7_3); (try clear hcz7_4); (try clear hcz7_5); (try clear hfz17_0); (try clear hfz17_1); (try clear hfz17_2); (try clear hfz17_3); (try clear hfz17_4); (try clear hfz17_5); (try clear hfz7_0); (try clear hfz7_1); (try clear hfz7_2); (try clear hfz7_3); (try clear hfz7_4); (try clear hfz7_5)
   obtain ⟨x4_1, x34_1, rfl, HA, HK1, HO_4, BK176, HB⟩ := hrel
   cases gk with
   | zero => exact absurd HA.out (by simp [lsa_Encode.l0])
   | succ k1 =>
    have H := HA.out
    clear HA
    simp only [lsa_Encode.l0] at H
    by_cases c18 : x34_1 < (l0_4.length : Int)
    ·rw [if_pos c18] at H
     have c18b0 : decide (x34_1 < (l0_4.length : Int)) = true := decide_eq_true c18
     clear c18
     by_cases c19 : 0 ≤ x34_1
     ·rw [if_pos c19] at H
      have c19b0 : decide (0 ≤ x34_1) = true := decide_eq_true c19
      clear c19
      by_cases c20 : x34_1 < (l0_4.length : Int)
      ·rw [if_pos c20] at H
       have c20b0 : decide (x34_1 < (l0_4.length : Int)) = true := decide_eq_true c20
       clear c20
       obtain ⟨y190, hy190⟩ : ∃ y_ : List (S96), y_ = (([(⟨(rd_T72 l0_4 x34_1).f0, 2⟩ : S96), (⟨(rd_T72 l0_4 x34_1).f1, 2⟩ : S96), (⟨(rd_T72 l0_4 x34_1).f2, 2⟩ : S96)] : List (S96))) := ⟨_, rfl⟩
       replace H : ((lsa_value.f k1 y190).bind fun t193 => (if x4_1.length < 4398046511104 then (lsa_Encode.l0 k1 (x4_1 ++ [(⟨2, t193⟩ : S99)]) l0_4 (l0_4.length : Int) (wrap64 (x34_1 + 1)) a0_0 a0_1 a0_2 a0_3 l0_4 l0_5) else (none))) = some (r1, r2) := by first | (rw [hy190]; with_reducible exact H) | (have H2_ := (Option.bind_some _ _).symm.trans H; rw [hy190]; with_reducible exact H2_) | (have H2_ := (Option.bind_some _ _).symm.trans H; with_reducible exact H2_) | with_reducible exact H | (rw [hy190]; exact H) | exact H
       have Ny190 := Aside0.mk hy190
       clear hy190
       replace H := Option.bind_eq_some_iff.mp H
       obtain ⟨t193, A210, H⟩ := H
       replace H : (if x4_1.length < 4398046511104 then (lsa_Encode.l0 k1 (x4_1 ++ [(⟨2, t193⟩ : S99)]) l0_4 (l0_4.length : Int) (wrap64 (x34_1 + 1)) a0_0 a0_1 a0_2 a0_3 l0_4 l0_5) else (none)) = some (r1, r2) := H
       have A21 := Aside0.mk A210
       clear A210
       by_cases c22 : x4_1.length < 4398046511104
       ·rw [if_pos c22] at H
        have LMc22 := Aside0.mk c22
        clear c22
        obtain ⟨y196, hy196⟩ : ∃ y_ : List (S99), y_ = (x4_1 ++ [(⟨2, t193⟩ : S99)]) := ⟨_, rfl⟩
        replace H : (lsa_Encode.l0 k1 y196 l0_4 (l0_4.length : Int) (wrap64 (x34_1 + 1)) a0_0 a0_1 a0_2 a0_3 l0_4 l0_5) = some (r1, r2) := by first | (rw [hy196]; with_reducible exact H) | (have H2_ := (Option.bind_some _ _).symm.trans H; rw [hy196]; with_reducible exact H2_) | (have H2_ := (Option.bind_some _ _).symm.trans H; with_reducible exact H2_) | with_reducible exact H | (rw [hy196]; exact H) | exact H
        have Ny196 := Aside0.mk hy196
        clear hy196
        have H' := Aside0.mk H
        clear H
        have p188 : 0 ≤ (x34_1 : Int) := of_decide_eq_true (by first | (with_reducible assumption) | assumption)
        have q188 : x34_1 < (l0_4.length : Int) := of_decide_eq_true (by first | (with_reducible assumption) | assumption)
        obtain ⟨ad188, e188, hx188_0, hx188_1, hx188_2⟩ := at_T72 HR0_4.out x34_1 p188 q188
        cases e188
        replace hx188_0 := (HB.out.cell (World.block_lt_of_cell? w _ hx188_0)).trans hx188_0
        replace hx188_1 := (HB.out.cell (World.block_lt_of_cell? w _ hx188_1)).trans hx188_1
        replace hx188_2 := (HB.out.cell (World.block_lt_of_cell? w _ hx188_2)).trans hx188_2
        replace p188 := eq_true p188
        replace q188 := eq_true q188
        go_wp2_with (first | ((with_reducible refine gate_dst (N := 6) rfl ?_); refine bx_ 6 #[.int .i64 0, .int .i64 0, .int .i64 0] 72 rfl rfl ?hr ?_; (case hr => go_simp; try rfl); intro gb189 hg w23 hbox hb; have BK189 := Aside0.mk (hbox); have GW189 := Aside0.mk ((by rw [hg]; exact (below_size (by repeat (first | (with_reducible first | exact HB.out | apply bU | apply bS GE176.out) | exact HB.out))) : w.heap.size ≤ gb189)); have GE189 := Aside0.mk ((by rw [hg]; exact (below_size (by repeat (first | (with_reducible first | exact HB.out | apply bU | apply bS GE176.out) | exact HB.out))) : w.heap.size ≤ gb189)); have NB176_189 := nl_ BK176 hg; have NB189_176 := ng_ BK176 hg; replace HO_4 := Aside0.mk (Kd.N_below (Kd.N_elderB (by (with_reducible repeat (first | apply Kd.N_alloc | apply Kd.N_drewN | apply Kd.N_drew)); exact HO_4.out) gb189 (Nat.le_of_eq hg.symm)) hb); replace BK176 := bb_ BK176 hb; replace HB := Aside0.mk (below_step (by repeat (first | (with_reducible first | exact HB.out | apply bU | apply bS GE176.out) | exact HB.out)) hb); clear hb hbox hg; have hnb24 := NB189_176.out; have hnc24 := NB176_189.out; obtain ⟨hcz25_0, hcz25_1, hcz25_2, hfz25_0, hfz25_1, hfz25_2⟩ := c3_ BK189) | ((with_reducible refine gate_dst (N := 48) rfl ?_); refine Kd.R_lit k96 _ 96 ?hg (N := 48) ?hd (xs := ([(⟨(rd_T72 l0_4 x34_1).f0, 2⟩ : S96), (⟨(rd_T72 l0_4 x34_1).f1, 2⟩ : S96), (⟨(rd_T72 l0_4 x34_1).f2, 2⟩ : S96)] : List (S96))) (inner := [.int .i64 ((rd_T72 l0_4 x34_1).f0), .int .i64 2, .int .i64 ((rd_T72 l0_4 x34_1).f1), .int .i64 2, .int .i64 ((rd_T72 l0_4 x34_1).f2), .int .i64 2]) (ok := fun _ => True) (okp := fun _ => True) ?hr ?hp (fun _ hk => hk) trivial (Below.refl _ _) (Nat.le_refl _) (by simp) ?_; (case hd => rfl); (case hg => rfl); (case hr => first | (go_simp; done) | (go_simp; rfl)); (case hp => exact (Reps.c2 (show Kd.M k96 _ _ _ (⟨(rd_T72 l0_4 x34_1).f0, 2⟩ : S96) [.int .i64 ((rd_T72 l0_4 x34_1).f0), .int .i64 2] from (k96_mkM _ _ _ (⟨(rd_T72 l0_4 x34_1).f0, 2⟩ : S96) )) (Reps.c2 (show Kd.M k96 _ _ _ (⟨(rd_T72 l0_4 x34_1).f1, 2⟩ : S96) [.int .i64 ((rd_T72 l0_4 x34_1).f1), .int .i64 2] from (k96_mkM _ _ _ (⟨(rd_T72 l0_4 x34_1).f1, 2⟩ : S96) )) (Reps.c2 (show Kd.M k96 _ _ _ (⟨(rd_T72 l0_4 x34_1).f2, 2⟩ : S96) [.int .i64 ((rd_T72 l0_4 x34_1).f2), .int .i64 2] from (k96_mkM _ _ _ (⟨(rd_T72 l0_4 x34_1).f2, 2⟩ : S96) )) (Reps.none _ _))))); intro v191 w26 ho27 hb hg_ hnew_; clear hg_ hnew_; (first | rw [← Ny190.out] at ho27 | (simp only [Int.reduceToNat] at ho27; rw [← Ny190.out] at ho27)); have HO192 := Aside0.mk (Kd.R_lower ho27 (below_size (by repeat (first | (with_reducible first | exact HB.out | apply bU | apply bS GE176.out | apply bS GE189.out) | exact HB.out)))); replace HO_4 := Aside0.mk (Kd.N_elder' (by (with_reducible repeat (first | apply Kd.N_alloc | apply Kd.N_drewN | apply Kd.N_drew)); exact (Kd.N_mono (Kd.N_far (p := ⟨gb189, 2, none⟩) (Kd.N_far (p := ⟨gb189, 1, none⟩) (Kd.N_far (p := ⟨gb189, 0, none⟩) (Kd.N_mono HO_4.out (fun k_ hk => (⟨hk, hk.2⟩ : _ ∧ k_ ≠ gb189))) (fun _ hk => hk.2) (.int .i64 ((rd_T72 l0_4 x34_1).f0))) (fun _ hk => hk.2) (.int .i64 ((rd_T72 l0_4 x34_1).f1))) (fun _ hk => hk.2) (.int .i64 ((rd_T72 l0_4 x34_1).f2))) (fun _ h_ => h_.1))) (Kd.R_base ho27) hb); replace BK176 := Aside0.mk (blk_below (g := gb176) (o := .cells #[.int .i64 a0_0, .int .i64 a0_1, .int .i64 a0_2, .bool a0_3, .slice (some ad188) l0_4.length c0_4, .slice A0_5 l0_5.length c0_5] 32 (0, 0)) (by (with_reducible repeat (first | refine blk_drewN ?_ _ | refine blk_drew ?_ | refine blk_alloc ?_ _)); refine blk_far ?_ NB176_189.out _; (with_reducible repeat (first | refine blk_drewN ?_ _ | refine blk_drew ?_ | refine blk_alloc ?_ _)); refine blk_far ?_ NB176_189.out _; (with_reducible repeat (first | refine blk_drewN ?_ _ | refine blk_drew ?_ | refine blk_alloc ?_ _)); refine blk_far ?_ NB176_189.out _; (with_reducible repeat (first | refine blk_drewN ?_ _ | refine blk_drew ?_ | refine blk_alloc ?_ _)); exact BK176.out) hb); replace BK189 := Aside0.mk (blk_below (g := gb189) (o := .cells #[.int .i64 ((rd_T72 l0_4 x34_1).f0), .int .i64 ((rd_T72 l0_4 x34_1).f1), .int .i64 ((rd_T72 l0_4 x34_1).f2)] 72 (0, 0)) (by (with_reducible repeat (first | refine blk_drewN ?_ _ | refine blk_drew ?_ | refine blk_alloc ?_ _)); refine blk_put (cs := #[.int .i64 ((rd_T72 l0_4 x34_1).f0), .int .i64 ((rd_T72 l0_4 x34_1).f1), .int .i64 0]) ?_ 2 _ rfl; (with_reducible repeat (first | refine blk_drewN ?_ _ | refine blk_drew ?_ | refine blk_alloc ?_ _)); refine blk_put (cs := #[.int .i64 ((rd_T72 l0_4 x34_1).f0), .int .i64 0, .int .i64 0]) ?_ 1 _ rfl; (with_reducible repeat (first | refine blk_drewN ?_ _ | refine blk_drew ?_ | refine blk_alloc ?_ _)); refine blk_put (cs := #[.int .i64 0, .int .i64 0, .int .i64 0]) ?_ 0 _ rfl; (with_reducible repeat (first | refine blk_drewN ?_ _ | refine blk_drew ?_ | refine blk_alloc ?_ _)); exact BK189.out) hb); replace HB := Aside0.mk (below_step (by repeat (first | (with_reducible first | exact HB.out | apply bU | apply bS GE176.out | apply bS GE189.out) | exact HB.out)) hb); clear hb ho27; obtain ⟨Ao28, co28, eo28⟩ := Kd.R_slice HO192.out; subst eo28) | ((with_reducible refine gate_callee (f := 57) rfl ?_); refine goesL_ (some 49) rfl rfl Try.func57 (by kernel_rfl) rfl #[.slice Ao28 y190.length co28] rfl (by (try simp only [List.map_toArray, List.map_cons, List.map_nil]); first | done | rfl | (simp only [List.length_drop, List.length_take]; rfl)) ?_; (with_reducible refine (lsa_value.calls k1 _ _ y190 t193 _ ?side1 ?side2 A21.out).mono ?_); (case side1 => repeat (first | exact (Kd.R_reads' HO192.out).2.2 | (with_reducible refine Kd.C_alloc ?_ _) | (with_reducible refine Kd.C_drewN ?_ _) | (with_reducible refine Kd.C_drew ?_))); (case side2 => exact (Kd.R_reads' HO192.out).2.1); rintro e w29 ⟨v194, rfl, ho0, hb⟩; refine ⟨_, rfl, ?_⟩; have HO195 := Aside0.mk (Kd.R_lower ho0 (below_size (by repeat (first | (with_reducible first | exact HB.out | apply bU | apply bS GE176.out | apply bS GE189.out) | exact HB.out)))); replace HO_4 := Aside0.mk (Kd.N_elder' (by (with_reducible repeat (first | apply Kd.N_alloc | apply Kd.N_drewN | apply Kd.N_drew)); exact HO_4.out) (Kd.R_base ho0) hb); replace HO192 := Aside0.mk (Kd.R_below (by (with_reducible repeat (first | apply Kd.R_alloc | apply Kd.R_drewN | apply Kd.R_drew)); exact HO192.out) hb); replace BK176 := bb_ BK176 hb; replace BK189 := bb_ BK189 hb; replace HB := Aside0.mk (below_step (by repeat (first | (with_reducible first | exact HB.out | apply bU | apply bS GE176.out | apply bS GE189.out) | exact HB.out)) hb); (try clear hb); (try clear hb2); (try clear hk); (try clear hi); (try clear ho0); obtain ⟨Ao30, co30, eo30⟩ := Kd.R_slice HO195.out; subst eo30) | ((with_reducible refine gate_builtin (b := .append) (xs := #[.tmp 38, .tmp 51]) rfl ?_); at_builtin; refine Kd.N_append k99 (w0 := w) w.heap.size rfl (.tmp 38) (.tmp 51) 100 99 (.agg #[(.int .i64 0), (.slice none 0 0)]) 32 rfl Try.underlying100 info99 rfl (by decide) (by omega) u4 x4_1 (⟨2, t193⟩ : S99) [.int .i64 2, .slice Ao30 t193.length co30] (fun k_ => some k_ ≠ (.slice Ao28 y190.length co28 : Value).ownBlock ∧ k_ ≠ gb176 ∧ k_ ≠ gb189) (fun k_ => ((fun k_ => some k_ ≠ (.slice Ao28 y190.length co28 : Value).ownBlock ∧ k_ ≠ gb176 ∧ k_ ≠ gb189)) k_ ∧ some k_ ≠ (u4 : Value).ownBlock) rfl rfl ?aP (fun _ hk => hk) ?aF ?aO ?aB ?aS ?aL ?_; (case aP => exact (k99_mkF _ _ (⟨2, t193⟩ : S99) (Kd.R_reads' (Kd.R_mono (ok' := (fun k_ => ((fun k_ => some k_ ≠ (.slice Ao28 y190.length co28 : Value).ownBlock ∧ k_ ≠ gb176 ∧ k_ ≠ gb189)) k_ ∧ some k_ ≠ (u4 : Value).ownBlock)) (Kd.R_types (Kd.R_types (Kd.R_apart' (Kd.R_apart' (HO195.out) (Kd.R_typed HO192.out) (by decide)) (Kd.N_typed HO_4.out) (by decide)) BK176.out (by decide)) BK189.out (by decide)) (fun k_ hk => ⟨⟨hk.1.1.1.2, ⟨hk.1.2, hk.2⟩⟩, hk.1.1.2⟩))).2.1 (Kd.R_F (Kd.R_mono (ok' := (fun k_ => ((fun k_ => some k_ ≠ (.slice Ao28 y190.length co28 : Value).ownBlock ∧ k_ ≠ gb176 ∧ k_ ≠ gb189)) k_ ∧ some k_ ≠ (u4 : Value).ownBlock)) (Kd.R_types (Kd.R_types (Kd.R_apart' (Kd.R_apart' (HO195.out) (Kd.R_typed HO192.out) (by decide)) (Kd.N_typed HO_4.out) (by decide)) BK176.out (by decide)) BK189.out (by decide)) (fun k_ hk => ⟨⟨hk.1.1.1.2, ⟨hk.1.2, hk.2⟩⟩, hk.1.1.2⟩))))); (case aB => exact (by repeat (first | (with_reducible first | exact HB.out | apply bU | apply bS GE176.out | apply bS GE189.out) | exact HB.out))); (case aF => exact (fun k_ hk => ⟨Kd.fresh' (Kd.R_lt (by (with_reducible repeat (first | apply Kd.R_alloc | apply Kd.R_drewN | apply Kd.R_drew)); exact HO192.out)) k_ hk, Kd.freshB (g := gb176) (o := .cells #[.int .i64 a0_0, .int .i64 a0_1, .int .i64 a0_2, .bool a0_3, .slice (some ad188) l0_4.length c0_4, .slice A0_5 l0_5.length c0_5] 32 (0, 0)) (kb_ BK176) k_ hk, Kd.freshB (g := gb189) (o := .cells #[.int .i64 ((rd_T72 l0_4 x34_1).f0), .int .i64 ((rd_T72 l0_4 x34_1).f1), .int .i64 ((rd_T72 l0_4 x34_1).f2)] 72 (0, 0)) (kb_ BK189) k_ hk⟩)); (case aO => exact (by (with_reducible repeat (first | apply Kd.N_alloc | apply Kd.N_drewN | apply Kd.N_drew)); exact Kd.N_mono HO_4.out (fun _ hk => ⟨hk.1.2, ⟨hk.1.1.1, hk.1.1.2⟩⟩))); (case aS => exact (below_size (by repeat (first | (with_reducible first | exact HB.out | apply bU | apply bS GE176.out | apply bS GE189.out) | exact HB.out)))); (case aL => have := LMc22.out; omega); intro v197 w31 ho hb hg hat; rw [← Ny196.out] at ho; have HO198 := Aside0.mk (ho); replace BK176 := Aside0.mk (blk_grown (g := gb176) (o := .cells #[.int .i64 a0_0, .int .i64 a0_1, .int .i64 a0_2, .bool a0_3, .slice (some ad188) l0_4.length c0_4, .slice A0_5 l0_5.length c0_5] 32 (0, 0)) (kb_ BK176) hg (Kd.N_ne HO_4.out BK176.out (by decide))); replace BK189 := Aside0.mk (blk_grown (g := gb189) (o := .cells #[.int .i64 ((rd_T72 l0_4 x34_1).f0), .int .i64 ((rd_T72 l0_4 x34_1).f1), .int .i64 ((rd_T72 l0_4 x34_1).f2)] 72 (0, 0)) (kb_ BK189) hg (Kd.N_ne HO_4.out BK189.out (by decide))); replace HO192 := Aside0.mk (Kd.R_over' (by (with_reducible repeat (first | apply Kd.R_alloc | apply Kd.R_drewN | apply Kd.R_drew)); exact HO192.out) (Kd.N_typed (by (with_reducible repeat (first | apply Kd.N_alloc | apply Kd.N_drewN | apply Kd.N_drew)); exact HO_4.out)) (by decide) hg); replace HB := Aside0.mk (hb); clear HO_4 HO195; clear ho hb hg hat))
        go_roundg k1
        case measure => have := HK1.out; omega
        case rel => exact ⟨(y196), (wrap64 (x34_1 + 1)), (by first | rfl | (simp; done) | (simp [*]; done)), H', ⟨by have := HK1.out; omega⟩, ⟨by (with_reducible repeat (first | apply Kd.N_alloc | apply Kd.N_drewN | apply Kd.N_drew)); exact Kd.N_mono HO198.out (fun _ hk => hk.2.1)⟩, ⟨kb_ BK176⟩, ⟨by repeat (first | (with_reducible first | exact HB.out | apply bU | apply bS GE176.out | apply bS GE189.out) | exact HB.out)⟩⟩
       ·rw [if_neg c22] at H
        exact absurd H (by simp)
      ·rw [if_neg c20] at H
       exact absurd H (by simp)
     ·rw [if_neg c19] at H
      exact absurd H (by simp)
    ·rw [if_neg c18] at H
     have c18b0 : decide (x34_1 < (l0_4.length : Int)) = false := decide_eq_false c18
     clear c18
     have H' := Aside0.mk H
     clear H
     obtain ⟨hcz32_0, hcz32_1, hcz32_2, hcz32_3, hcz32_4, hcz32_5, hfz32_0, hfz32_1, hfz32_2, hfz32_3, hfz32_4, hfz32_5⟩ := c6_ BK176
     go_wp2
     go_loopg [4, 57] k1 (fun kq v4 v57 w' => ∃ (x4_2 : List (S99)) (x57_2 : Int), v57 = .int .i64 x57_2 ∧ Aside0 (lsa_Encode.l1 kq x4_2 l0_5 (l0_5.length : Int) x57_2 = some (r1, r2)) ∧ Aside0 (kq ≤ k1) ∧ Aside0 (Kd.N k99 99 w' w.heap.size (fun k_ => k_ ≠ gb176) v4 x4_2) ∧ Aside0 (w'.heap[gb176]? = some (.cells #[.int .i64 a0_0, .int .i64 a0_1, .int .i64 a0_2, .bool a0_3, (.slice A0_4 l0_4.length c0_4), (.slice A0_5 l0_5.length c0_5)] 32 (0, 0))) ∧ Aside0 (Below w.heap.size w w'))
     case atStart => exact ⟨(x4_1), (0), (by first | rfl | (simp; done) | (simp [*]; done)), H', ⟨Nat.le_refl _⟩, ⟨by (with_reducible repeat (first | apply Kd.N_alloc | apply Kd.N_drewN | apply Kd.N_drew)); exact HO_4.out⟩, ⟨kb_ BK176⟩, ⟨by repeat (first | (with_reducible first | exact HB.out | apply bU | apply bS GE176.out) | exact HB.out)⟩⟩
     case round =>
      clear H'
      (try clear c2); (try clear c3); (try clear c18); (try clear c18b0); (try clear hcz17_0); (try clear hcz17_1); (try clear hcz17_2); (try clear hcz17_3); (try clear hcz17_4); (try clear hcz17_5); (try clear hcz32_0); (try clear hcz32_1); (try clear hcz32_2); (try clear hcz32_3); (try clear hcz32_4); (try clear hcz32_5); (try clear hcz7_0); (try clear hcz7_1); (try clear hcz7_2); (try clear hcz7_3); (try clear hcz7_4); (try clear hcz7_5); (try clear hfz17_0); (try clear hfz17_1); (try clear hfz17_2); (try clear hfz17_3); (try clear hfz17_4); (try clear hfz17_5); (try clear hfz32_0); (try clear hfz32_1); (try clear hfz32_2); (try clear hfz32_3); (try clear hfz32_4); (try clear hfz32_5); (try clear hfz7_0); (try clear hfz7_1); (try clear hfz7_2); (try clear hfz7_3); (try clear hfz7_4); (try clear hfz7_5)
      obtain ⟨x4_2, x57_2, rfl, HA, HK2, HO_4, BK176, HB⟩ := hrel
      cases gk with
      | zero => exact absurd HA.out (by simp [lsa_Encode.l1])
      | succ k2 =>
       have H := HA.out
       clear HA
       simp only [lsa_Encode.l1] at H
       by_cases c33 : x57_2 < (l0_5.length : Int)
       ·rw [if_pos c33] at H
        have c33b0 : decide (x57_2 < (l0_5.length : Int)) = true := decide_eq_true c33
        clear c33
        by_cases c34 : 0 ≤ x57_2
        ·rw [if_pos c34] at H
         have c34b0 : decide (0 ≤ x57_2) = true := decide_eq_true c34
         clear c34
         by_cases c35 : x57_2 < (l0_5.length : Int)
         ·rw [if_pos c35] at H
          have c35b0 : decide (x57_2 < (l0_5.length : Int)) = true := decide_eq_true c35
          clear c35
          obtain ⟨y201, hy201⟩ : ∃ y_ : List (S96), y_ = (([(⟨wrap64 ((rd_T76 l0_5 x57_2).f0), 4⟩ : S96), (⟨(rd_T76 l0_5 x57_2).f1, 1⟩ : S96)] : List (S96))) := ⟨_, rfl⟩
          replace H : ((lsa_value.f k2 y201).bind fun t204 => (if x4_2.length < 4398046511104 then (lsa_Encode.l1 k2 (x4_2 ++ [(⟨3, t204⟩ : S99)]) l0_5 (l0_5.length : Int) (wrap64 (x57_2 + 1))) else (none))) = some (r1, r2) := by first | (rw [hy201]; with_reducible exact H) | (have H2_ := (Option.bind_some _ _).symm.trans H; rw [hy201]; with_reducible exact H2_) | (have H2_ := (Option.bind_some _ _).symm.trans H; with_reducible exact H2_) | with_reducible exact H | (rw [hy201]; exact H) | exact H
          have Ny201 := Aside0.mk hy201
          clear hy201
          replace H := Option.bind_eq_some_iff.mp H
          obtain ⟨t204, A360, H⟩ := H
          replace H : (if x4_2.length < 4398046511104 then (lsa_Encode.l1 k2 (x4_2 ++ [(⟨3, t204⟩ : S99)]) l0_5 (l0_5.length : Int) (wrap64 (x57_2 + 1))) else (none)) = some (r1, r2) := H
          have A36 := Aside0.mk A360
          clear A360
          by_cases c37 : x4_2.length < 4398046511104
          ·rw [if_pos c37] at H
           have LMc37 := Aside0.mk c37
           clear c37
           obtain ⟨y207, hy207⟩ : ∃ y_ : List (S99), y_ = (x4_2 ++ [(⟨3, t204⟩ : S99)]) := ⟨_, rfl⟩
           replace H : (lsa_Encode.l1 k2 y207 l0_5 (l0_5.length : Int) (wrap64 (x57_2 + 1))) = some (r1, r2) := by first | (rw [hy207]; with_reducible exact H) | (have H2_ := (Option.bind_some _ _).symm.trans H; rw [hy207]; with_reducible exact H2_) | (have H2_ := (Option.bind_some _ _).symm.trans H; with_reducible exact H2_) | with_reducible exact H | (rw [hy207]; exact H) | exact H
           have Ny207 := Aside0.mk hy207
           clear hy207
           have H' := Aside0.mk H
           clear H
           have p199 : 0 ≤ (x57_2 : Int) := of_decide_eq_true (by first | (with_reducible assumption) | assumption)
           have q199 : x57_2 < (l0_5.length : Int) := of_decide_eq_true (by first | (with_reducible assumption) | assumption)
           obtain ⟨ad199, e199, hx199_0, hx199_1⟩ := at_T76 HR0_5.out x57_2 p199 q199
           cases e199
           replace hx199_0 := (HB.out.cell (World.block_lt_of_cell? w _ hx199_0)).trans hx199_0
           replace hx199_1 := (HB.out.cell (World.block_lt_of_cell? w _ hx199_1)).trans hx199_1
           replace p199 := eq_true p199
           replace q199 := eq_true q199
           go_wp2_with (first | ((with_reducible refine gate_dst (N := 8) rfl ?_); refine bx_ 8 #[.int .u32 0, .int .i64 0] 76 rfl rfl ?hr ?_; (case hr => go_simp; try rfl); intro gb200 hg w38 hbox hb; have BK200 := Aside0.mk (hbox); have GW200 := Aside0.mk ((by rw [hg]; exact (below_size (by repeat (first | (with_reducible first | exact HB.out | apply bU | apply bS GE176.out) | exact HB.out))) : w.heap.size ≤ gb200)); have GE200 := Aside0.mk ((by rw [hg]; exact (below_size (by repeat (first | (with_reducible first | exact HB.out | apply bU | apply bS GE176.out) | exact HB.out))) : w.heap.size ≤ gb200)); have NB176_200 := nl_ BK176 hg; have NB200_176 := ng_ BK176 hg; replace HO_4 := Aside0.mk (Kd.N_below (Kd.N_elderB (by (with_reducible repeat (first | apply Kd.N_alloc | apply Kd.N_drewN | apply Kd.N_drew)); exact HO_4.out) gb200 (Nat.le_of_eq hg.symm)) hb); replace BK176 := bb_ BK176 hb; replace HB := Aside0.mk (below_step (by repeat (first | (with_reducible first | exact HB.out | apply bU | apply bS GE176.out) | exact HB.out)) hb); clear hb hbox hg; have hnb39 := NB200_176.out; have hnc39 := NB176_200.out; obtain ⟨hcz40_0, hcz40_1, hfz40_0, hfz40_1⟩ := c2_ BK200) | ((with_reducible refine gate_dst (N := 69) rfl ?_); refine Kd.R_lit k96 _ 96 ?hg (N := 69) ?hd (xs := ([(⟨wrap64 ((rd_T76 l0_5 x57_2).f0), 4⟩ : S96), (⟨(rd_T76 l0_5 x57_2).f1, 1⟩ : S96)] : List (S96))) (inner := [.int .i64 (wrap64 ((rd_T76 l0_5 x57_2).f0)), .int .i64 4, .int .i64 ((rd_T76 l0_5 x57_2).f1), .int .i64 1]) (ok := fun _ => True) (okp := fun _ => True) ?hr ?hp (fun _ hk => hk) trivial (Below.refl _ _) (Nat.le_refl _) (by simp) ?_; (case hd => rfl); (case hg => rfl); (case hr => first | (go_simp; done) | (go_simp; rfl)); (case hp => exact (Reps.c2 (show Kd.M k96 _ _ _ (⟨wrap64 ((rd_T76 l0_5 x57_2).f0), 4⟩ : S96) [.int .i64 (wrap64 ((rd_T76 l0_5 x57_2).f0)), .int .i64 4] from (k96_mkM _ _ _ (⟨wrap64 ((rd_T76 l0_5 x57_2).f0), 4⟩ : S96) )) (Reps.c2 (show Kd.M k96 _ _ _ (⟨(rd_T76 l0_5 x57_2).f1, 1⟩ : S96) [.int .i64 ((rd_T76 l0_5 x57_2).f1), .int .i64 1] from (k96_mkM _ _ _ (⟨(rd_T76 l0_5 x57_2).f1, 1⟩ : S96) )) (Reps.none _ _)))); intro v202 w41 ho42 hb hg_ hnew_; clear hg_ hnew_; (first | rw [← Ny201.out] at ho42 | (simp only [Int.reduceToNat] at ho42; rw [← Ny201.out] at ho42)); have HO203 := Aside0.mk (Kd.R_lower ho42 (below_size (by repeat (first | (with_reducible first | exact HB.out | apply bU | apply bS GE176.out | apply bS GE200.out) | exact HB.out)))); replace HO_4 := Aside0.mk (Kd.N_elder' (by (with_reducible repeat (first | apply Kd.N_alloc | apply Kd.N_drewN | apply Kd.N_drew)); exact (Kd.N_mono (Kd.N_far (p := ⟨gb200, 1, none⟩) (Kd.N_far (p := ⟨gb200, 0, none⟩) (Kd.N_mono HO_4.out (fun k_ hk => (⟨hk, hk.2⟩ : _ ∧ k_ ≠ gb200))) (fun _ hk => hk.2) (.int .u32 ((rd_T76 l0_5 x57_2).f0))) (fun _ hk => hk.2) (.int .i64 ((rd_T76 l0_5 x57_2).f1))) (fun _ h_ => h_.1))) (Kd.R_base ho42) hb); replace BK176 := Aside0.mk (blk_below (g := gb176) (o := .cells #[.int .i64 a0_0, .int .i64 a0_1, .int .i64 a0_2, .bool a0_3, .slice A0_4 l0_4.length c0_4, .slice (some ad199) l0_5.length c0_5] 32 (0, 0)) (by (with_reducible repeat (first | refine blk_drewN ?_ _ | refine blk_drew ?_ | refine blk_alloc ?_ _)); refine blk_far ?_ NB176_200.out _; (with_reducible repeat (first | refine blk_drewN ?_ _ | refine blk_drew ?_ | refine blk_alloc ?_ _)); refine blk_far ?_ NB176_200.out _; (with_reducible repeat (first | refine blk_drewN ?_ _ | refine blk_drew ?_ | refine blk_alloc ?_ _)); exact BK176.out) hb); replace BK200 := Aside0.mk (blk_below (g := gb200) (o := .cells #[.int .u32 ((rd_T76 l0_5 x57_2).f0), .int .i64 ((rd_T76 l0_5 x57_2).f1)] 76 (0, 0)) (by (with_reducible repeat (first | refine blk_drewN ?_ _ | refine blk_drew ?_ | refine blk_alloc ?_ _)); refine blk_put (cs := #[.int .u32 ((rd_T76 l0_5 x57_2).f0), .int .i64 0]) ?_ 1 _ rfl; (with_reducible repeat (first | refine blk_drewN ?_ _ | refine blk_drew ?_ | refine blk_alloc ?_ _)); refine blk_put (cs := #[.int .u32 0, .int .i64 0]) ?_ 0 _ rfl; (with_reducible repeat (first | refine blk_drewN ?_ _ | refine blk_drew ?_ | refine blk_alloc ?_ _)); exact BK200.out) hb); replace HB := Aside0.mk (below_step (by repeat (first | (with_reducible first | exact HB.out | apply bU | apply bS GE176.out | apply bS GE200.out) | exact HB.out)) hb); clear hb ho42; obtain ⟨Ao43, co43, eo43⟩ := Kd.R_slice HO203.out; subst eo43) | ((with_reducible refine gate_callee (f := 57) rfl ?_); refine goesL_ (some 70) rfl rfl Try.func57 (by kernel_rfl) rfl #[.slice Ao43 y201.length co43] rfl (by (try simp only [List.map_toArray, List.map_cons, List.map_nil]); first | done | rfl | (simp only [List.length_drop, List.length_take]; rfl)) ?_; (with_reducible refine (lsa_value.calls k2 _ _ y201 t204 _ ?side1 ?side2 A36.out).mono ?_); (case side1 => repeat (first | exact (Kd.R_reads' HO203.out).2.2 | (with_reducible refine Kd.C_alloc ?_ _) | (with_reducible refine Kd.C_drewN ?_ _) | (with_reducible refine Kd.C_drew ?_))); (case side2 => exact (Kd.R_reads' HO203.out).2.1); rintro e w44 ⟨v205, rfl, ho0, hb⟩; refine ⟨_, rfl, ?_⟩; have HO206 := Aside0.mk (Kd.R_lower ho0 (below_size (by repeat (first | (with_reducible first | exact HB.out | apply bU | apply bS GE176.out | apply bS GE200.out) | exact HB.out)))); replace HO_4 := Aside0.mk (Kd.N_elder' (by (with_reducible repeat (first | apply Kd.N_alloc | apply Kd.N_drewN | apply Kd.N_drew)); exact HO_4.out) (Kd.R_base ho0) hb); replace HO203 := Aside0.mk (Kd.R_below (by (with_reducible repeat (first | apply Kd.R_alloc | apply Kd.R_drewN | apply Kd.R_drew)); exact HO203.out) hb); replace BK176 := bb_ BK176 hb; replace BK200 := bb_ BK200 hb; replace HB := Aside0.mk (below_step (by repeat (first | (with_reducible first | exact HB.out | apply bU | apply bS GE176.out | apply bS GE200.out) | exact HB.out)) hb); (try clear hb); (try clear hb2); (try clear hk); (try clear hi); (try clear ho0); obtain ⟨Ao45, co45, eo45⟩ := Kd.R_slice HO206.out; subst eo45) | ((with_reducible refine gate_builtin (b := .append) (xs := #[.tmp 61, .tmp 72]) rfl ?_); at_builtin; refine Kd.N_append k99 (w0 := w) w.heap.size rfl (.tmp 61) (.tmp 72) 100 99 (.agg #[(.int .i64 0), (.slice none 0 0)]) 32 rfl Try.underlying100 info99 rfl (by decide) (by omega) u4 x4_2 (⟨3, t204⟩ : S99) [.int .i64 3, .slice Ao45 t204.length co45] (fun k_ => some k_ ≠ (.slice Ao43 y201.length co43 : Value).ownBlock ∧ k_ ≠ gb176 ∧ k_ ≠ gb200) (fun k_ => ((fun k_ => some k_ ≠ (.slice Ao43 y201.length co43 : Value).ownBlock ∧ k_ ≠ gb176 ∧ k_ ≠ gb200)) k_ ∧ some k_ ≠ (u4 : Value).ownBlock) rfl rfl ?aP (fun _ hk => hk) ?aF ?aO ?aB ?aS ?aL ?_; (case aP => exact (k99_mkF _ _ (⟨3, t204⟩ : S99) (Kd.R_reads' (Kd.R_mono (ok' := (fun k_ => ((fun k_ => some k_ ≠ (.slice Ao43 y201.length co43 : Value).ownBlock ∧ k_ ≠ gb176 ∧ k_ ≠ gb200)) k_ ∧ some k_ ≠ (u4 : Value).ownBlock)) (Kd.R_types (Kd.R_types (Kd.R_apart' (Kd.R_apart' (HO206.out) (Kd.R_typed HO203.out) (by decide)) (Kd.N_typed HO_4.out) (by decide)) BK176.out (by decide)) BK200.out (by decide)) (fun k_ hk => ⟨⟨hk.1.1.1.2, ⟨hk.1.2, hk.2⟩⟩, hk.1.1.2⟩))).2.1 (Kd.R_F (Kd.R_mono (ok' := (fun k_ => ((fun k_ => some k_ ≠ (.slice Ao43 y201.length co43 : Value).ownBlock ∧ k_ ≠ gb176 ∧ k_ ≠ gb200)) k_ ∧ some k_ ≠ (u4 : Value).ownBlock)) (Kd.R_types (Kd.R_types (Kd.R_apart' (Kd.R_apart' (HO206.out) (Kd.R_typed HO203.out) (by decide)) (Kd.N_typed HO_4.out) (by decide)) BK176.out (by decide)) BK200.out (by decide)) (fun k_ hk => ⟨⟨hk.1.1.1.2, ⟨hk.1.2, hk.2⟩⟩, hk.1.1.2⟩))))); (case aB => exact (by repeat (first | (with_reducible first | exact HB.out | apply bU | apply bS GE176.out | apply bS GE200.out) | exact HB.out))); (case aF => exact (fun k_ hk => ⟨Kd.fresh' (Kd.R_lt (by (with_reducible repeat (first | apply Kd.R_alloc | apply Kd.R_drewN | apply Kd.R_drew)); exact HO203.out)) k_ hk, Kd.freshB (g := gb176) (o := .cells #[.int .i64 a0_0, .int .i64 a0_1, .int .i64 a0_2, .bool a0_3, .slice A0_4 l0_4.length c0_4, .slice (some ad199) l0_5.length c0_5] 32 (0, 0)) (kb_ BK176) k_ hk, Kd.freshB (g := gb200) (o := .cells #[.int .u32 ((rd_T76 l0_5 x57_2).f0), .int .i64 ((rd_T76 l0_5 x57_2).f1)] 76 (0, 0)) (kb_ BK200) k_ hk⟩)); (case aO => exact (by (with_reducible repeat (first | apply Kd.N_alloc | apply Kd.N_drewN | apply Kd.N_drew)); exact Kd.N_mono HO_4.out (fun _ hk => ⟨hk.1.2, ⟨hk.1.1.1, hk.1.1.2⟩⟩))); (case aS => exact (below_size (by repeat (first | (with_reducible first | exact HB.out | apply bU | apply bS GE176.out | apply bS GE200.out) | exact HB.out)))); (case aL => have := LMc37.out; omega); intro v208 w46 ho hb hg hat; rw [← Ny207.out] at ho; have HO209 := Aside0.mk (ho); replace BK176 := Aside0.mk (blk_grown (g := gb176) (o := .cells #[.int .i64 a0_0, .int .i64 a0_1, .int .i64 a0_2, .bool a0_3, .slice A0_4 l0_4.length c0_4, .slice (some ad199) l0_5.length c0_5] 32 (0, 0)) (kb_ BK176) hg (Kd.N_ne HO_4.out BK176.out (by decide))); replace BK200 := Aside0.mk (blk_grown (g := gb200) (o := .cells #[.int .u32 ((rd_T76 l0_5 x57_2).f0), .int .i64 ((rd_T76 l0_5 x57_2).f1)] 76 (0, 0)) (kb_ BK200) hg (Kd.N_ne HO_4.out BK200.out (by decide))); replace HO203 := Aside0.mk (Kd.R_over' (by (with_reducible repeat (first | apply Kd.R_alloc | apply Kd.R_drewN | apply Kd.R_drew)); exact HO203.out) (Kd.N_typed (by (with_reducible repeat (first | apply Kd.N_alloc | apply Kd.N_drewN | apply Kd.N_drew)); exact HO_4.out)) (by decide) hg); replace HB := Aside0.mk (hb); clear HO_4 HO206; clear ho hb hg hat))
           go_roundg k2
           case measure => have := HK1.out; have := HK2.out; omega
           case rel => exact ⟨(y207), (wrap64 (x57_2 + 1)), (by first | rfl | (simp; done) | (simp [*]; done)), H', ⟨by have := HK1.out; have := HK2.out; omega⟩, ⟨by (with_reducible repeat (first | apply Kd.N_alloc | apply Kd.N_drewN | apply Kd.N_drew)); exact Kd.N_mono HO209.out (fun _ hk => hk.2.1)⟩, ⟨kb_ BK176⟩, ⟨by repeat (first | (with_reducible first | exact HB.out | apply bU | apply bS GE176.out | apply bS GE200.out) | exact HB.out)⟩⟩
          ·rw [if_neg c37] at H
           exact absurd H (by simp)
         ·rw [if_neg c35] at H
          exact absurd H (by simp)
        ·rw [if_neg c34] at H
         exact absurd H (by simp)
       ·rw [if_neg c33] at H
        have c33b0 : decide (x57_2 < (l0_5.length : Int)) = false := decide_eq_false c33
        clear c33
        by_cases c47 : 2 ≤ 281474976710656
        ·rw [if_pos c47] at H
         have c47b0 := eq_true c47
         have c47b1 : decide (2 ≤ 281474976710656) = true := decide_eq_true c47
         clear c47
         obtain ⟨y210, hy210⟩ : ∃ y_ : List Int, y_ = (List.replicate 2 0) := ⟨_, rfl⟩
         replace H : (if x4_2.length < 4398046511104 then ((codec_Encode.f k2 (x4_2 ++ [(⟨4, y210⟩ : S99)])).bind fun bt216 => (if bt216.2 = 0 then ((fletcher_Seal.f k2 bt216.1 (wrap64 ((bt216.1.length : Int) - 2))).bind fun bt220 => (some (bt220.1, bt220.2))) else (some (([] : List Int), bt216.2)))) else (none)) = some (r1, r2) := by first | (rw [hy210]; with_reducible exact H) | (have H2_ := (Option.bind_some _ _).symm.trans H; rw [hy210]; with_reducible exact H2_) | (have H2_ := (Option.bind_some _ _).symm.trans H; with_reducible exact H2_) | with_reducible exact H | (rw [hy210]; exact H) | exact H
         have Ny210 := Aside0.mk hy210
         clear hy210
         by_cases c48 : x4_2.length < 4398046511104
         ·rw [if_pos c48] at H
          have LMc48 := Aside0.mk c48
          clear c48
          obtain ⟨y213, hy213⟩ : ∃ y_ : List (S99), y_ = (x4_2 ++ [(⟨4, y210⟩ : S99)]) := ⟨_, rfl⟩
          replace H : ((codec_Encode.f k2 y213).bind fun bt216 => (if bt216.2 = 0 then ((fletcher_Seal.f k2 bt216.1 (wrap64 ((bt216.1.length : Int) - 2))).bind fun bt220 => (some (bt220.1, bt220.2))) else (some (([] : List Int), bt216.2)))) = some (r1, r2) := by first | (rw [hy213]; with_reducible exact H) | (have H2_ := (Option.bind_some _ _).symm.trans H; rw [hy213]; with_reducible exact H2_) | (have H2_ := (Option.bind_some _ _).symm.trans H; with_reducible exact H2_) | with_reducible exact H | (rw [hy213]; exact H) | exact H
          have Ny213 := Aside0.mk hy213
          clear hy213
          replace H := Option.bind_eq_some_iff.mp H
          obtain ⟨⟨t216, t217⟩, A490, H⟩ := H
          replace H : (if t217 = 0 then ((fletcher_Seal.f k2 t216 (wrap64 ((t216.length : Int) - 2))).bind fun bt220 => (some (bt220.1, bt220.2))) else (some (([] : List Int), t217))) = some (r1, r2) := H
          have A49 := Aside0.mk A490
          clear A490
          by_cases c50 : t217 = 0
          ·rw [if_pos c50] at H
           have c50b0 : (t217 == 0) = true := beq_iff_eq.mpr c50
           have c50b1 : (t217 != 0) = false := bne_eq_false_iff_eq.mpr c50
           clear c50
           replace H := Option.bind_eq_some_iff.mp H
           obtain ⟨⟨t220, t221⟩, A510, H⟩ := H
           replace H : (some (t220, t221)) = some (r1, r2) := H
           have A51 := Aside0.mk A510
           clear A510
           simp only [Option.some.injEq, Prod.mk.injEq] at H
           obtain ⟨rfl, rfl⟩ := H
           go_wp2_with (first | ((with_reducible refine gate_dst (N := 76) rfl ?_); refine Kd.R_make (Kd.int .u8) _ 5 rfl (N := 76) rfl 82 _ _ rfl 2 rfl rfl Try.underlying82 (.int .u8 0) 1 info5 rfl (by decide) (by omega) 0 (ok := fun _ => True) (okp := fun _ => True) rfl (fun _ hk => hk) trivial (by omega) (by omega) (Below.refl _ _) (Nat.le_refl _) ?_; intro v211 w52 ho53 hb hg_ hnew_; clear hg_ hnew_; (first | rw [← Ny210.out] at ho53 | (simp only [Int.reduceToNat] at ho53; rw [← Ny210.out] at ho53)); have HO212 := Aside0.mk (Kd.R_lower ho53 (below_size (by repeat (first | (with_reducible first | exact HB.out | apply bU | apply bS GE176.out) | exact HB.out)))); replace HO_4 := Aside0.mk (Kd.N_elder' (by (with_reducible repeat (first | apply Kd.N_alloc | apply Kd.N_drewN | apply Kd.N_drew)); exact HO_4.out) (Kd.R_base ho53) hb); replace BK176 := bb_ BK176 hb; replace HB := Aside0.mk (below_step (by repeat (first | (with_reducible first | exact HB.out | apply bU | apply bS GE176.out) | exact HB.out)) hb); clear hb ho53; obtain ⟨Ao54, co54, eo54⟩ := Kd.R_slice HO212.out; subst eo54) | ((with_reducible refine gate_builtin (b := .append) (xs := #[.tmp 75, .tmp 78]) rfl ?_); at_builtin; refine Kd.N_append k99 (w0 := w) w.heap.size rfl (.tmp 75) (.tmp 78) 100 99 (.agg #[(.int .i64 0), (.slice none 0 0)]) 32 rfl Try.underlying100 info99 rfl (by decide) (by omega) u4 x4_2 (⟨4, y210⟩ : S99) [.int .i64 4, .slice Ao54 y210.length co54] (fun k_ => k_ ≠ gb176) (fun k_ => ((fun k_ => k_ ≠ gb176)) k_ ∧ some k_ ≠ (u4 : Value).ownBlock) rfl rfl ?aP (fun _ hk => hk) ?aF ?aO ?aB ?aS ?aL ?_; (case aP => exact (k99_mkF _ _ (⟨4, y210⟩ : S99) (Kd.R_reads' (Kd.R_mono (ok' := (fun k_ => ((fun k_ => k_ ≠ gb176)) k_ ∧ some k_ ≠ (u4 : Value).ownBlock)) (Kd.R_types (Kd.R_apart' (HO212.out) (Kd.N_typed HO_4.out) (by decide)) BK176.out (by decide)) (fun k_ hk => ⟨hk.2, hk.1.2⟩))).2.1 (Kd.R_F (Kd.R_mono (ok' := (fun k_ => ((fun k_ => k_ ≠ gb176)) k_ ∧ some k_ ≠ (u4 : Value).ownBlock)) (Kd.R_types (Kd.R_apart' (HO212.out) (Kd.N_typed HO_4.out) (by decide)) BK176.out (by decide)) (fun k_ hk => ⟨hk.2, hk.1.2⟩))))); (case aB => exact (by repeat (first | (with_reducible first | exact HB.out | apply bU | apply bS GE176.out) | exact HB.out))); (case aF => exact (fun k_ hk => Kd.freshB (g := gb176) (o := .cells #[.int .i64 a0_0, .int .i64 a0_1, .int .i64 a0_2, .bool a0_3, .slice A0_4 l0_4.length c0_4, .slice A0_5 l0_5.length c0_5] 32 (0, 0)) (kb_ BK176) k_ hk)); (case aO => exact (by (with_reducible repeat (first | apply Kd.N_alloc | apply Kd.N_drewN | apply Kd.N_drew)); exact Kd.N_mono HO_4.out (fun _ hk => hk.1))); (case aS => exact (below_size (by repeat (first | (with_reducible first | exact HB.out | apply bU | apply bS GE176.out) | exact HB.out)))); (case aL => have := LMc48.out; omega); intro v214 w55 ho hb hg hat; rw [← Ny213.out] at ho; have HO215 := Aside0.mk (ho); replace BK176 := Aside0.mk (blk_grown (g := gb176) (o := .cells #[.int .i64 a0_0, .int .i64 a0_1, .int .i64 a0_2, .bool a0_3, .slice A0_4 l0_4.length c0_4, .slice A0_5 l0_5.length c0_5] 32 (0, 0)) (kb_ BK176) hg (Kd.N_ne HO_4.out BK176.out (by decide))); replace HB := Aside0.mk (hb); clear HO_4 HO212; clear ho hb hg hat; obtain ⟨Ao56, co56, eo56⟩ := Kd.N_slice HO215.out; subst eo56) | ((with_reducible refine gate_callee (f := 58) rfl ?_); refine goesL_ (some 82) rfl rfl Try.func58 (by kernel_rfl) rfl #[.slice Ao56 y213.length co56] rfl (by (try simp only [List.map_toArray, List.map_cons, List.map_nil]); first | done | rfl | (simp only [List.length_drop, List.length_take]; rfl)) ?_; (with_reducible refine (codec_Encode.calls k2 _ _ y213 t216 t217 _ ?side1 ?side2 A49.out).mono ?_); (case side1 => repeat (first | exact (Kd.N_reads' HO215.out).2.2 | (with_reducible refine Kd.C_alloc ?_ _) | (with_reducible refine Kd.C_drewN ?_ _) | (with_reducible refine Kd.C_drew ?_))); (case side2 => exact (Kd.N_reads' HO215.out).2.1); rintro e w57 ⟨v218, rfl, ho0, hb⟩; refine ⟨_, rfl, ?_⟩; have HO219 := Aside0.mk (Kd.R_lower ho0 (below_size (by repeat (first | (with_reducible first | exact HB.out | apply bU | apply bS GE176.out) | exact HB.out)))); replace HO215 := Aside0.mk (Kd.N_elder' (by (with_reducible repeat (first | apply Kd.N_alloc | apply Kd.N_drewN | apply Kd.N_drew)); exact HO215.out) (Kd.R_base ho0) hb); replace BK176 := bb_ BK176 hb; replace HB := Aside0.mk (below_step (by repeat (first | (with_reducible first | exact HB.out | apply bU | apply bS GE176.out) | exact HB.out)) hb); (try clear hb); (try clear hb2); (try clear hk); (try clear hi); (try clear ho0); obtain ⟨Ao58, co58, eo58⟩ := Kd.R_slice HO219.out; subst eo58) | ((with_reducible refine gate_callee (f := 59) rfl ?_); refine goesL_ (some 92) rfl rfl Try.func59 (by kernel_rfl) rfl #[.slice Ao58 t216.length co58, .int .i64 (wrap64 ((t216.length : Int) - 2))] rfl (by (try simp only [List.map_toArray, List.map_cons, List.map_nil]); first | done | rfl | (simp only [List.length_drop, List.length_take]; rfl)) ?_; (with_reducible refine (fletcher_Seal.calls k2 _ _ t216 (wrap64 ((t216.length : Int) - 2)) t220 t221 _ ?side1 ?side2 A51.out).mono ?_); (case side1 => repeat (first | exact (Kd.R_reads' HO219.out).2.2 | (with_reducible refine Kd.C_alloc ?_ _) | (with_reducible refine Kd.C_drewN ?_ _) | (with_reducible refine Kd.C_drew ?_))); (case side2 => exact (Kd.R_reads' HO219.out).2.1); rintro e w59 ⟨v222, rfl, ho0, hb⟩; refine ⟨_, rfl, ?_⟩; have HO223 := Aside0.mk (Kd.R_lower (Kd.R_new' ho0 (Kd.R_lt (by (with_reducible repeat (first | apply Kd.R_alloc | apply Kd.R_drewN | apply Kd.R_drew)); exact HO219.out))) (below_size (by repeat (first | (with_reducible first | exact HB.out | apply bU | apply bS GE176.out) | exact HB.out)))); replace HO215 := Aside0.mk (Kd.N_elder' (by (with_reducible repeat (first | apply Kd.N_alloc | apply Kd.N_drewN | apply Kd.N_drew)); exact HO215.out) (Kd.R_base ho0) hb); replace HO219 := Aside0.mk (Kd.R_elder' (by (with_reducible repeat (first | apply Kd.R_alloc | apply Kd.R_drewN | apply Kd.R_drew)); exact HO219.out) (Kd.R_base ho0) hb); replace BK176 := bb_ BK176 hb; replace HB := Aside0.mk (below_step (by repeat (first | (with_reducible first | exact HB.out | apply bU | apply bS GE176.out) | exact HB.out)) hb); (try clear hb); (try clear hb2); (try clear hk); (try clear hi); (try clear ho0)))
           go_ret2
           exact ⟨_, by first | rfl | (simp [errW_none, errW_some] <;> rfl) | (simp [*, errW_none, errW_some] <;> rfl), by (with_reducible repeat (first | apply Kd.R_alloc | apply Kd.R_drewN | apply Kd.R_drew)); exact Kd.R_mono HO223.out (fun _ hk => trivial), by repeat (first | (with_reducible first | exact HB.out | apply bU | apply bS GE176.out) | exact HB.out)⟩
          ·rw [if_neg c50] at H
           have c50b0 : (t217 == 0) = false := beq_eq_false_iff_ne.mpr c50
           have c50b1 : (t217 != 0) = true := bne_iff_ne.mpr c50
           simp only [Option.some.injEq, Prod.mk.injEq] at H
           obtain ⟨rfl, rfl⟩ := H
           go_wp2_with (first | ((with_reducible refine gate_dst (N := 76) rfl ?_); refine Kd.R_make (Kd.int .u8) _ 5 rfl (N := 76) rfl 82 _ _ rfl 2 rfl rfl Try.underlying82 (.int .u8 0) 1 info5 rfl (by decide) (by omega) 0 (ok := fun _ => True) (okp := fun _ => True) rfl (fun _ hk => hk) trivial (by omega) (by omega) (Below.refl _ _) (Nat.le_refl _) ?_; intro v211 w60 ho61 hb hg_ hnew_; clear hg_ hnew_; (first | rw [← Ny210.out] at ho61 | (simp only [Int.reduceToNat] at ho61; rw [← Ny210.out] at ho61)); have HO212 := Aside0.mk (Kd.R_lower ho61 (below_size (by repeat (first | (with_reducible first | exact HB.out | apply bU | apply bS GE176.out) | exact HB.out)))); replace HO_4 := Aside0.mk (Kd.N_elder' (by (with_reducible repeat (first | apply Kd.N_alloc | apply Kd.N_drewN | apply Kd.N_drew)); exact HO_4.out) (Kd.R_base ho61) hb); replace BK176 := bb_ BK176 hb; replace HB := Aside0.mk (below_step (by repeat (first | (with_reducible first | exact HB.out | apply bU | apply bS GE176.out) | exact HB.out)) hb); clear hb ho61; obtain ⟨Ao62, co62, eo62⟩ := Kd.R_slice HO212.out; subst eo62) | ((with_reducible refine gate_builtin (b := .append) (xs := #[.tmp 75, .tmp 78]) rfl ?_); at_builtin; refine Kd.N_append k99 (w0 := w) w.heap.size rfl (.tmp 75) (.tmp 78) 100 99 (.agg #[(.int .i64 0), (.slice none 0 0)]) 32 rfl Try.underlying100 info99 rfl (by decide) (by omega) u4 x4_2 (⟨4, y210⟩ : S99) [.int .i64 4, .slice Ao62 y210.length co62] (fun k_ => k_ ≠ gb176) (fun k_ => ((fun k_ => k_ ≠ gb176)) k_ ∧ some k_ ≠ (u4 : Value).ownBlock) rfl rfl ?aP (fun _ hk => hk) ?aF ?aO ?aB ?aS ?aL ?_; (case aP => exact (k99_mkF _ _ (⟨4, y210⟩ : S99) (Kd.R_reads' (Kd.R_mono (ok' := (fun k_ => ((fun k_ => k_ ≠ gb176)) k_ ∧ some k_ ≠ (u4 : Value).ownBlock)) (Kd.R_types (Kd.R_apart' (HO212.out) (Kd.N_typed HO_4.out) (by decide)) BK176.out (by decide)) (fun k_ hk => ⟨hk.2, hk.1.2⟩))).2.1 (Kd.R_F (Kd.R_mono (ok' := (fun k_ => ((fun k_ => k_ ≠ gb176)) k_ ∧ some k_ ≠ (u4 : Value).ownBlock)) (Kd.R_types (Kd.R_apart' (HO212.out) (Kd.N_typed HO_4.out) (by decide)) BK176.out (by decide)) (fun k_ hk => ⟨hk.2, hk.1.2⟩))))); (case aB => exact (by repeat (first | (with_reducible first | exact HB.out | apply bU | apply bS GE176.out) | exact HB.out))); (case aF => exact (fun k_ hk => Kd.freshB (g := gb176) (o := .cells #[.int .i64 a0_0, .int .i64 a0_1, .int .i64 a0_2, .bool a0_3, .slice A0_4 l0_4.length c0_4, .slice A0_5 l0_5.length c0_5] 32 (0, 0)) (kb_ BK176) k_ hk)); (case aO => exact (by (with_reducible repeat (first | apply Kd.N_alloc | apply Kd.N_drewN | apply Kd.N_drew)); exact Kd.N_mono HO_4.out (fun _ hk => hk.1))); (case aS => exact (below_size (by repeat (first | (with_reducible first | exact HB.out | apply bU | apply bS GE176.out) | exact HB.out)))); (case aL => have := LMc48.out; omega); intro v214 w63 ho hb hg hat; rw [← Ny213.out] at ho; have HO215 := Aside0.mk (ho); replace BK176 := Aside0.mk (blk_grown (g := gb176) (o := .cells #[.int .i64 a0_0, .int .i64 a0_1, .int .i64 a0_2, .bool a0_3, .slice A0_4 l0_4.length c0_4, .slice A0_5 l0_5.length c0_5] 32 (0, 0)) (kb_ BK176) hg (Kd.N_ne HO_4.out BK176.out (by decide))); replace HB := Aside0.mk (hb); clear HO_4 HO212; clear ho hb hg hat; obtain ⟨Ao64, co64, eo64⟩ := Kd.N_slice HO215.out; subst eo64) | ((with_reducible refine gate_callee (f := 58) rfl ?_); refine goesL_ (some 82) rfl rfl Try.func58 (by kernel_rfl) rfl #[.slice Ao64 y213.length co64] rfl (by (try simp only [List.map_toArray, List.map_cons, List.map_nil]); first | done | rfl | (simp only [List.length_drop, List.length_take]; rfl)) ?_; (with_reducible refine (codec_Encode.calls k2 _ _ y213 t216 t217 _ ?side1 ?side2 A49.out).mono ?_); (case side1 => repeat (first | exact (Kd.N_reads' HO215.out).2.2 | (with_reducible refine Kd.C_alloc ?_ _) | (with_reducible refine Kd.C_drewN ?_ _) | (with_reducible refine Kd.C_drew ?_))); (case side2 => exact (Kd.N_reads' HO215.out).2.1); rintro e w65 ⟨v218, rfl, ho0, hb⟩; refine ⟨_, rfl, ?_⟩; have HO219 := Aside0.mk (Kd.R_lower ho0 (below_size (by repeat (first | (with_reducible first | exact HB.out | apply bU | apply bS GE176.out) | exact HB.out)))); replace HO215 := Aside0.mk (Kd.N_elder' (by (with_reducible repeat (first | apply Kd.N_alloc | apply Kd.N_drewN | apply Kd.N_drew)); exact HO215.out) (Kd.R_base ho0) hb); replace BK176 := bb_ BK176 hb; replace HB := Aside0.mk (below_step (by repeat (first | (with_reducible first | exact HB.out | apply bU | apply bS GE176.out) | exact HB.out)) hb); (try clear hb); (try clear hb2); (try clear hk); (try clear hi); (try clear ho0)))
           go_ret2
           exact ⟨_, by first | rfl | (simp [errW_none, errW_some] <;> rfl) | (simp [*, errW_none, errW_some] <;> rfl), by first | exact Kd.R_nil _ _ _ _ _ | exact Kd.N_nil _ _ _ _ _ | exact Kd.V_nil _ _ _ _ _ | exact Kd.Q_nil _ _ _ _ _ | exact Kd.S_nil _ _ _ _ _, by repeat (first | (with_reducible first | exact HB.out | apply bU | apply bS GE176.out) | exact HB.out)⟩
         ·rw [if_neg c48] at H
          exact absurd H (by simp)
        ·rw [if_neg c47] at H
         exact absurd H (by simp)
 ·replace c3 := Bool.eq_false_iff.mpr c3
  subst c3
  have H1 : (some (([] : List Int), 1)) = some (r1, r2) := by rw [if_neg (show ¬ (false = true) by decide)] at H; exact H
  clear H
  have H := H1
  clear H1
  simp only [Option.some.injEq, Prod.mk.injEq] at H
  obtain ⟨rfl, rfl⟩ := H
  go_enter Try.func54, Try.ntmps54
  go_wp2_with (first | ((with_reducible refine gate_dst (N := 1) rfl ?_); refine bx_ 1 #[.int .i64 a0_0, .int .i64 a0_1, .int .i64 a0_2, .bool a0_3, .slice A0_4 l0_4.length c0_4, .slice A0_5 l0_5.length c0_5] 32 rfl rfl ?hr ?_; (case hr => go_simp; try rfl); intro gb176 hg w66 hbox hb; have BK176 := Aside0.mk (hbox); have GW176 := gs_ HB hg; have GE176 := gs_ HB hg; replace HB := bs_ HB hb; clear hb hbox hg; obtain ⟨hcz67_0, hcz67_1, hcz67_2, hcz67_3, hcz67_4, hcz67_5, hfz67_0, hfz67_1, hfz67_2, hfz67_3, hfz67_4, hfz67_5⟩ := c6_ BK176) | ((with_reducible refine gate_callee (f := 20) rfl ?_); refine goesL_ (some 12) rfl rfl Try.func20 (by kernel_rfl) rfl #[.agg #[.int .i64 a0_0, .int .i64 a0_1, .int .i64 a0_2, .bool a0_3, .slice A0_4 l0_4.length c0_4, .slice A0_5 l0_5.length c0_5]] rfl (by (try simp only [List.map_toArray, List.map_cons, List.map_nil]); first | done | rfl | (simp only [List.length_drop, List.length_take]; rfl)) ?_; (with_reducible refine (lsa_Valid.calls k a0_0 a0_1 a0_2 a0_3 _ _ l0_4 _ _ l0_5 false _ ?side1 ?side2 ?side3 ?side4 A2.out).mono ?_); (case side1 => exact cs_ HR0_4 HB); (case side2 => exact HC0_4.out); (case side3 => exact cs_ HR0_5 HB); (case side4 => exact HC0_5.out); rintro e w68 ⟨rfl, hb⟩; refine ⟨_, rfl, ?_⟩; replace BK176 := bb_ BK176 hb; replace HB := Aside0.mk (below_step (by repeat (first | (with_reducible first | exact HB.out | apply bU | apply bS GE176.out) | exact HB.out)) hb); (try clear hb); (try clear hb2); (try clear hk); (try clear hi)))
  go_ret2
  exact ⟨_, by first | rfl | (simp [errW_none, errW_some] <;> rfl) | (simp [*, errW_none, errW_some] <;> rfl), by first | exact Kd.R_nil _ _ _ _ _ | exact Kd.N_nil _ _ _ _ _ | exact Kd.V_nil _ _ _ _ _ | exact Kd.Q_nil _ _ _ _ _ | exact Kd.S_nil _ _ _ _ _, by repeat (first | (with_reducible first | exact HB.out | apply bU | apply bS GE176.out) | exact HB.out)⟩

/-! ### lsa_young: function 42 -/
def lsa_young.f (k : Nat) (a0_0 : Int) (a0_1 : Int) (a0_2 : Int) (a0_3 : Bool) (l0_4 : List (S72)) (l0_5 : List (S76)) : Option (List Int) := (lsa_Encode.f k a0_0 a0_1 0 a0_3 l0_4 l0_5).bind fun bt225 => (some bt225.1)
theorem lsa_young.mono : ∀ a0 a1 a2 a3 a4 a5 k, LeO (lsa_young.f k a0 a1 a2 a3 a4 a5) (lsa_young.f (k + 1) a0 a1 a2 a3 a4 a5) := by
 intro a0 a1 a2 a3 a4 a5 k
 unfold lsa_young.f
 repeat' first
   | (with_reducible exact lsa_Encode.mono _ _ _ _ _ _ _)
   | (with_reducible exact LeO.refl _)
   | (with_reducible exact LeO.none _)
   | (with_reducible refine LeO.ite ?_ ?_)
   | (with_reducible refine LeO.bind ?_ (fun _ => ?_))
   | exact lsa_Encode.mono _ _ _ _ _ _ _
   | exact LeO.none _
   | refine LeO.ite ?_ ?_
   | refine LeO.bind ?_ (fun _ => ?_)
set_option maxHeartbeats 8000000 in
set_option maxRecDepth 100000 in
theorem lsa_young.calls (k : Nat) (a0_0 : Int) (a0_1 : Int) (a0_2 : Int) (a0_3 : Bool) (A0_4 : Option Addr) (c0_4 : Nat) (l0_4 : List (S72)) (A0_5 : Option Addr) (c0_5 : Nat) (l0_5 : List (S76)) (r : List Int) (w : World) (hr0_4 : Kd.C k72 w A0_4 l0_4.length l0_4) (hc0_4 : l0_4.length ≤ c0_4) (hr0_5 : Kd.C k76 w A0_5 l0_5.length l0_5) (hc0_5 : l0_5.length ≤ c0_5) (h : lsa_young.f k a0_0 a0_1 a0_2 a0_3 l0_4 l0_5 = some r) :
  Calls Try.prog 42 #[.agg #[.int .i64 a0_0, .int .i64 a0_1, .int .i64 a0_2, .bool a0_3, .slice A0_4 l0_4.length c0_4, .slice A0_5 l0_5.length c0_5]] w fun e w' => ∃ v0_ : Value, e = .returned (v0_) ∧ Kd.R (Kd.int .u8) 5 w' w.heap.size (fun _ => True) v0_ r ∧ Below w.heap.size w w' := by
 have hu32 := Try.underlying32
 have HR0_4 := Aside0.mk hr0_4
 have HC0_4 := Aside0.mk hc0_4
 clear hr0_4 hc0_4
 have HR0_5 := Aside0.mk hr0_5
 have HC0_5 := Aside0.mk hc0_5
 clear hr0_5 hc0_5
 have HB := Aside0.mk (Below.refl w.heap.size w)
 have H : ((lsa_Encode.f k a0_0 a0_1 0 a0_3 l0_4 l0_5).bind fun bt225 => (some bt225.1)) = some r := h
 clear h
 replace H := Option.bind_eq_some_iff.mp H
 obtain ⟨⟨t225, t228⟩, A20, H⟩ := H
 replace H : (some t225) = some r := H
 have A2 := Aside0.mk A20
 clear A20
 obtain rfl := Option.some.inj H
 go_enter Try.func42, Try.ntmps42
 go_wp2_with (first | ((with_reducible refine gate_dst (N := 1) rfl ?_); refine bx_ 1 #[.int .i64 a0_0, .int .i64 a0_1, .int .i64 a0_2, .bool a0_3, .slice A0_4 l0_4.length c0_4, .slice A0_5 l0_5.length c0_5] 32 rfl rfl ?hr ?_; (case hr => go_simp; try rfl); intro gb224 hg w3 hbox hb; have BK224 := Aside0.mk (hbox); have GW224 := gs_ HB hg; have GE224 := gs_ HB hg; replace HB := bs_ HB hb; clear hb hbox hg; obtain ⟨hcz4_0, hcz4_1, hcz4_2, hcz4_3, hcz4_4, hcz4_5, hfz4_0, hfz4_1, hfz4_2, hfz4_3, hfz4_4, hfz4_5⟩ := c6_ BK224) | ((with_reducible refine gate_callee (f := 54) rfl ?_); refine goesL_ (some 8) rfl rfl Try.func54 (by kernel_rfl) rfl #[.agg #[.int .i64 a0_0, .int .i64 a0_1, .int .i64 0, .bool a0_3, .slice A0_4 l0_4.length c0_4, .slice A0_5 l0_5.length c0_5]] rfl (by (try simp only [List.map_toArray, List.map_cons, List.map_nil]); first | done | rfl | (simp only [List.length_drop, List.length_take]; rfl)) ?_; (with_reducible refine (lsa_Encode.calls k a0_0 a0_1 0 a0_3 _ _ l0_4 _ _ l0_5 t225 t228 _ ?side1 ?side2 ?side3 ?side4 A2.out).mono ?_); (case side1 => exact Kd.C_below HR0_4.out (by repeat (first | (with_reducible first | exact HB.out | apply bU | apply bS GE224.out) | exact HB.out))); (case side2 => exact HC0_4.out); (case side3 => exact Kd.C_below HR0_5.out (by repeat (first | (with_reducible first | exact HB.out | apply bU | apply bS GE224.out) | exact HB.out))); (case side4 => exact HC0_5.out); rintro e w5 ⟨v226, rfl, ho0, hb⟩; refine ⟨_, rfl, ?_⟩; have HO227 := Aside0.mk (Kd.R_lower ho0 (below_size (by repeat (first | (with_reducible first | exact HB.out | apply bU | apply bS GE224.out) | exact HB.out)))); replace BK224 := Aside0.mk (blk_below (g := gb224) (o := .cells #[.int .i64 a0_0, .int .i64 a0_1, .int .i64 0, .bool a0_3, .slice A0_4 l0_4.length c0_4, .slice A0_5 l0_5.length c0_5] 32 (0, 0)) (by (with_reducible repeat (first | refine blk_drewN ?_ _ | refine blk_drew ?_ | refine blk_alloc ?_ _)); refine blk_put (cs := #[.int .i64 a0_0, .int .i64 a0_1, .int .i64 a0_2, .bool a0_3, .slice A0_4 l0_4.length c0_4, .slice A0_5 l0_5.length c0_5]) ?_ 2 _ rfl; (with_reducible repeat (first | refine blk_drewN ?_ _ | refine blk_drew ?_ | refine blk_alloc ?_ _)); exact BK224.out) hb); replace HB := Aside0.mk (below_step (by repeat (first | (with_reducible first | exact HB.out | apply bU | apply bS GE224.out) | exact HB.out)) hb); (try clear hb); (try clear hb2); (try clear hk); (try clear hi); (try clear ho0)))
 go_ret
 exact ⟨_, by first | rfl | (simp [errW_none, errW_some] <;> rfl) | (simp [*, errW_none, errW_some] <;> rfl), by (with_reducible repeat (first | apply Kd.R_alloc | apply Kd.R_drewN | apply Kd.R_drew)); exact HO227.out, by repeat (first | (with_reducible first | exact HB.out | apply bU | apply bS GE224.out) | exact HB.out)⟩

end Go.Proofs.Ytdkfhlfojleejaa.HLsc
