-- LAID by wip/hand.py, a program of this repository, over the kit's print: contracts of our own are put in. Lean checks it.
import Derived.Test.YtmknjjfdlkgidaaHLscx0
namespace Go.Proofs.Ytmknjjfdlkgidaa.HLsc
open Go.RowKit Go.Proofs.YtmknjjfdlkgidaaW.PrintWords Go.Proofs.YtmknjjfdlkgidaaW.PrintLast Go.Proofs.YtmknjjfdlkgidaaW.PrintMore
attribute [local go_sem] gtr_str leq_str max2_int min2_int max_two min_two max_three min_three max_four min_four   -- for this text's walks alone
set_option linter.unusedVariables false
set_option linter.unusedSimpArgs false

/-! ### waypointref07_Number: function 59 -/
def waypointref07_Number.l0 : Nat → Int → List Int → Int → Option (List Int)
 | 0, _, _, _ => none
 | k + 1, x0, x5, x6 => if x6 ≥ 0 then (if 0 ≤ x6 then (if x6 < (x5.length : Int) then (waypointref07_Number.l0 k (IntKind.u64.wrap (Int.tdiv x0 256)) (x5.set (x6 : Int).toNat ((Int.tmod x0 256) % 256)) (wrap64 (x6 - 1))) else (none)) else (none)) else (some x5)
def waypointref07_Number.f (k : Nat) (a0 : Int) (a1 : Int) : Option (List Int) := if 0 ≤ a1 then (if (a1 : Int).toNat ≤ 281474976710656 then (waypointref07_Number.l0 k a0 (List.replicate (a1 : Int).toNat 0) (wrap64 (a1 - 1))) else (none)) else (none)
theorem waypointref07_Number.mono_l : ∀ k, (∀ y0 y1 y2, LeO (waypointref07_Number.l0 k y0 y1 y2) (waypointref07_Number.l0 (k + 1) y0 y1 y2))
 | 0 => fun _ _ _ r h => by simp [waypointref07_Number.l0] at h
 | k + 1 => by
  have ih0 := waypointref07_Number.mono_l k
  ·intro y0 y1 y2
   unfold waypointref07_Number.l0
   repeat' first
   | (with_reducible exact ih0 _ _ _)
   | (with_reducible exact LeO.refl _)
   | (with_reducible exact LeO.none _)
   | (with_reducible refine LeO.ite ?_ ?_)
   | (with_reducible refine LeO.bind ?_ (fun _ => ?_))
   | exact ih0 _ _ _
   | exact LeO.none _
   | refine LeO.ite ?_ ?_
   | refine LeO.bind ?_ (fun _ => ?_)
theorem waypointref07_Number.mono : ∀ a0 a1 k, LeO (waypointref07_Number.f k a0 a1) (waypointref07_Number.f (k + 1) a0 a1) := by
 intro a0 a1 k
 have ih0 := waypointref07_Number.mono_l k
 unfold waypointref07_Number.f
 repeat' first
   | (with_reducible exact ih0 _ _ _)
   | (with_reducible exact LeO.refl _)
   | (with_reducible exact LeO.none _)
   | (with_reducible refine LeO.ite ?_ ?_)
   | (with_reducible refine LeO.bind ?_ (fun _ => ?_))
   | exact ih0 _ _ _
   | exact LeO.none _
   | refine LeO.ite ?_ ?_
   | refine LeO.bind ?_ (fun _ => ?_)
set_option maxHeartbeats 8000000 in
set_option maxRecDepth 100000 in
theorem waypointref07_Number.calls (k : Nat) (a0 : Int) (a1 : Int) (r : List Int) (w : World) (h : waypointref07_Number.f k a0 a1 = some r) :
  Calls Try.prog 59 #[.int .u64 a0, .int .i64 a1] w fun e w' => ∃ v0_ : Value, e = .returned (v0_) ∧ Kd.R (Kd.int .u8) 5 w' w.heap.size (fun _ => True) v0_ r ∧ Below w.heap.size w w' := by
 have HB := Aside0.mk (Below.refl w.heap.size w)
 have H : (if 0 ≤ a1 then (if (a1 : Int).toNat ≤ 281474976710656 then (waypointref07_Number.l0 k a0 (List.replicate (a1 : Int).toNat 0) (wrap64 (a1 - 1))) else (none)) else (none)) = some r := h
 clear h
 by_cases c3 : 0 ≤ a1
 ·rw [if_pos c3] at H
  have c3b0 := eq_true c3
  have c3b1 : decide (0 ≤ a1) = true := decide_eq_true c3
  clear c3
  by_cases c4 : (a1 : Int).toNat ≤ 281474976710656
  ·rw [if_pos c4] at H
   have c4b0 := eq_true c4
   have c4b1 : decide ((a1 : Int).toNat ≤ 281474976710656) = true := decide_eq_true c4
   clear c4
   obtain ⟨y278, hy278⟩ : ∃ y_ : List Int, y_ = (List.replicate (a1 : Int).toNat 0) := ⟨_, rfl⟩
   replace H : (waypointref07_Number.l0 k a0 y278 (wrap64 (a1 - 1))) = some r := by first | (rw [hy278]; with_reducible exact H) | (have H2_ := (Option.bind_some _ _).symm.trans H; rw [hy278]; with_reducible exact H2_) | (have H2_ := (Option.bind_some _ _).symm.trans H; with_reducible exact H2_) | with_reducible exact H | (rw [hy278]; exact H) | exact H
   have Ny278 := Aside0.mk hy278
   clear hy278
   have H' := Aside0.mk H
   clear H
   go_enter Try.func59, Try.ntmps59
   go_wp2_with (first | ((with_reducible refine gate_dst (N := 8) rfl ?_); refine Kd.R_make (Kd.int .u8) _ 5 rfl (N := 8) rfl 28 _ _ rfl a1 rfl rfl Try.underlying28 (.int .u8 0) 1 info5 rfl (by decide) (by omega) 0 (ok := fun _ => True) (okp := fun _ => True) rfl (fun _ hk => hk) trivial (of_decide_eq_true (by first | (with_reducible assumption) | assumption)) (Nat.le_trans (Nat.mul_le_mul_right _ (of_decide_eq_true (by first | (with_reducible assumption) | assumption) : a1.toNat ≤ 281474976710656)) (by omega)) (Below.refl _ _) (Nat.le_refl _) ?_; intro v279 w5 ho6 hb hg_ hnew_; clear hg_ hnew_; (first | rw [← Ny278.out] at ho6 | (simp only [Int.reduceToNat] at ho6; rw [← Ny278.out] at ho6)); have HO280 := Aside0.mk (Kd.R_lower ho6 (below_size (kw_ HB))); replace HB := bs_ HB hb; clear hb ho6))
   go_loopg [0, 6] k (fun kq v0 v6 w' => ∃ (x0_1 : Int) (x5_1 : List Int) (x6_1 : Int), v0 = .int .u64 x0_1 ∧ v6 = .int .i64 x6_1 ∧ Aside0 (waypointref07_Number.l0 kq x0_1 x5_1 x6_1 = some r) ∧ Aside0 (kq ≤ k) ∧ Aside0 (Kd.R (Kd.int .u8) 5 w' w.heap.size (fun _ => True) v279 x5_1) ∧ Aside0 (Below w.heap.size w w'))
   case atStart => exact ⟨(a0), (y278), (wrap64 (a1 - 1)), (by first | rfl | (simp; done) | (simp [*]; done)), (by first | rfl | (simp; done) | (simp [*]; done)), H', ⟨Nat.le_refl _⟩, ⟨by (with_reducible repeat (first | apply Kd.R_alloc | apply Kd.R_drewN | apply Kd.R_drew)); exact HO280.out⟩, ⟨kw_ HB⟩⟩
   case round =>
    clear H'
    (try clear c3); (try clear c3b0); (try clear c3b1); (try clear c4); (try clear c4b0); (try clear c4b1)
    obtain ⟨x0_1, x5_1, x6_1, rfl, rfl, HA, HK1, HO_5, HB⟩ := hrel
    cases gk with
    | zero => exact absurd HA.out (by simp [waypointref07_Number.l0])
    | succ k1 =>
     have H := HA.out
     clear HA
     simp only [waypointref07_Number.l0] at H
     by_cases c7 : x6_1 ≥ 0
     ·rw [if_pos c7] at H
      have c7b0 : decide (0 ≤ x6_1) = true := decide_eq_true c7
      clear c7
      by_cases c8 : 0 ≤ x6_1
      ·rw [if_pos c8] at H
       have c8b0 : decide (0 ≤ x6_1) = true := decide_eq_true c8
       clear c8
       by_cases c9 : x6_1 < (x5_1.length : Int)
       ·rw [if_pos c9] at H
        have c9b0 : decide (x6_1 < (x5_1.length : Int)) = true := decide_eq_true c9
        clear c9
        obtain ⟨y281, hy281⟩ : ∃ y_ : List Int, y_ = (x5_1.set (x6_1 : Int).toNat ((Int.tmod x0_1 256) % 256)) := ⟨_, rfl⟩
        replace H : (waypointref07_Number.l0 k1 (IntKind.u64.wrap (Int.tdiv x0_1 256)) y281 (wrap64 (x6_1 - 1))) = some r := by first | (rw [hy281]; with_reducible exact H) | (have H2_ := (Option.bind_some _ _).symm.trans H; rw [hy281]; with_reducible exact H2_) | (have H2_ := (Option.bind_some _ _).symm.trans H; with_reducible exact H2_) | with_reducible exact H | (rw [hy281]; exact H) | exact H
        have Ny281 := Aside0.mk hy281
        clear hy281
        have H' := Aside0.mk H
        clear H
        have p10 : 0 ≤ (x6_1 : Int) := of_decide_eq_true (by first | (with_reducible assumption) | assumption)
        have q10 : (x6_1 : Int) < ((x5_1.length : Int) : Int) := of_decide_eq_true (by first | (with_reducible assumption) | assumption)
        obtain ⟨go10, co10, eo10, gb10, gl10, cl10, HG10⟩ := Kd.R_form HO_5.out (by omega)
        (first | cases eo10 | (injection eo10 with ea_ en_ ec_; (first | subst ea_ | (injection ea_ with ea_; subst ea_)); subst ec_; clear en_))
        have GB10 := Aside0.mk gb10
        have GG10 := Aside0.mk HG10
        clear gb10 gl10 HG10
        obtain ⟨hx10_0, hf10_0⟩ := Kd.R_celln 0 HO_5.out (x6_1 : Int) p10 q10
        replace p10 := eq_true p10
        replace q10 := eq_true q10
        have HP11 := Kd.R_putg HO_5.out (x6_1 : Int) ((Int.tmod x0_1 256) % 256)
        go_wp2_with (first | ((with_reducible refine gate_store (t := 5) (p := 20) rfl ?_); refine store_event (t := 5) (p := 20) (v := ?vo_w12) (w1 := (wr.setCell ⟨go10, (x6_1 : Int).toNat, none⟩ (.int .u8 ((Int.tmod x0_1 256) % 256)))) ?hg ?ho ?hn ?hr ?_; (case ho => rfl); (case hg => rfl); (case hn => rfl); (case hr => first | (go_simp; done) | (go_simp; rfl)); intro w12 hw; have hg : wr.grownBy w12 (some go10) := (by rw [hw]; exact HP11.2); have hp_ : Kd.R (Kd.int .u8) 5 w12 w.heap.size (fun _ => True) (.slice (some ⟨go10, 0, none⟩) x5_1.length co10) y281 := (by rw [hw, Ny281.out]; exact HP11.1); clear HP11; replace HO_5 := Aside0.mk (hp_); replace HB := Aside0.mk ((by rw [hw]; exact below_set (HB.out) GB10.out : Below w.heap.size w w12)); clear hg hw hp_))
        go_roundg k1
        case measure => have := HK1.out; omega
        case rel => exact ⟨(IntKind.u64.wrap (Int.tdiv x0_1 256)), (y281), (wrap64 (x6_1 - 1)), (by first | rfl | (simp; done) | (simp [*]; done)), (by first | rfl | (simp; done) | (simp [*]; done)), H', ⟨by have := HK1.out; omega⟩, ⟨by (with_reducible repeat (first | apply Kd.R_alloc | apply Kd.R_drewN | apply Kd.R_drew)); exact HO_5.out⟩, ⟨kw_ HB⟩⟩
       ·rw [if_neg c9] at H
        exact absurd H (by simp)
      ·rw [if_neg c8] at H
       exact absurd H (by simp)
     ·rw [if_neg c7] at H
      have c7b0 : decide (0 ≤ x6_1) = false := decide_eq_false c7
      clear c7
      obtain rfl := Option.some.inj H
      go_wp2
      go_ret
      exact ⟨_, by first | rfl | (simp [errW_none, errW_some] <;> rfl) | (simp [*, errW_none, errW_some] <;> rfl), by (with_reducible repeat (first | apply Kd.R_alloc | apply Kd.R_drewN | apply Kd.R_drew)); exact HO_5.out, kw_ HB⟩
  ·rw [if_neg c4] at H
   exact absurd H (by simp)
 ·rw [if_neg c3] at H
  exact absurd H (by simp)

/-! ### waypointref32_fields: function 34 -/
def waypointref32_fields.l0 : Nat → List (S64) → List Int → Int → Option (List Int)
 | 0, _, _, _ => none
 | k + 1, x0, x3, x4 => if x4 < (x0.length : Int) then (if 0 ≤ x4 then ((waypointref07_Number.f k (IntKind.u64.wrap ((rd_T64 x0 x4).f0)) ((rd_T64 x0 x4).f1)).bind fun t284 => (if x3.length + t284.length < 140737488355328 then (waypointref32_fields.l0 k x0 (x3 ++ t284) (wrap64 (x4 + 1))) else (none))) else (none)) else (some x3)
def waypointref32_fields.f (k : Nat) (l0 : List (S64)) : Option (List Int) := waypointref32_fields.l0 k l0 ([] : List Int) 0
theorem waypointref32_fields.mono_l : ∀ k, (∀ y0 y1 y2, LeO (waypointref32_fields.l0 k y0 y1 y2) (waypointref32_fields.l0 (k + 1) y0 y1 y2))
 | 0 => fun _ _ _ r h => by simp [waypointref32_fields.l0] at h
 | k + 1 => by
  have ih0 := waypointref32_fields.mono_l k
  ·intro y0 y1 y2
   unfold waypointref32_fields.l0
   repeat' first
   | (with_reducible exact ih0 _ _ _)
   | (with_reducible exact waypointref07_Number.mono _ _ _)
   | (with_reducible exact LeO.refl _)
   | (with_reducible exact LeO.none _)
   | (with_reducible refine LeO.ite ?_ ?_)
   | (with_reducible refine LeO.bind ?_ (fun _ => ?_))
   | exact ih0 _ _ _
   | exact waypointref07_Number.mono _ _ _
   | exact LeO.none _
   | refine LeO.ite ?_ ?_
   | refine LeO.bind ?_ (fun _ => ?_)
theorem waypointref32_fields.mono : ∀ a0 k, LeO (waypointref32_fields.f k a0) (waypointref32_fields.f (k + 1) a0) := by
 intro a0 k
 have ih0 := waypointref32_fields.mono_l k
 unfold waypointref32_fields.f
 repeat' first
   | (with_reducible exact ih0 _ _ _)
   | (with_reducible exact waypointref07_Number.mono _ _ _)
   | (with_reducible exact LeO.refl _)
   | (with_reducible exact LeO.none _)
   | (with_reducible refine LeO.ite ?_ ?_)
   | (with_reducible refine LeO.bind ?_ (fun _ => ?_))
   | exact ih0 _ _ _
   | exact waypointref07_Number.mono _ _ _
   | exact LeO.none _
   | refine LeO.ite ?_ ?_
   | refine LeO.bind ?_ (fun _ => ?_)
def waypointref32_fields.T5 : Bool × List (List Nat × List Nat) := (true, [([], []), ([], []), ([], []), ([1, 2], [1, 2]), ([3], [3]), ([4], [4]), ([5], [5]), ([], []), ([], []), ([7, 8], [7, 8]), ([9], [9]), ([10], [10]), ([6, 11], [6, 11]), ([0, 12, 12], [0, 12]), ([13, 13, 0, 1, 2, 3, 4, 5, 6, 7, 8, 9, 10, 11, 12, 13], [0, 13])])
def waypointref32_fields.B5 : List Nat := [0, 0, 0, 6, 14, 30, 62, 0, 0, 384, 896, 1920, 4094, 8191, 16383]
theorem waypointref32_fields.tab5 : rtab .any (opsOf Try.f34 5) = waypointref32_fields.T5 := by kernel_rfl
theorem waypointref32_fields.bits5 : waitsOk waypointref32_fields.T5.2 waypointref32_fields.B5 = true := by kernel_rfl
set_option maxHeartbeats 8000000 in
set_option maxRecDepth 100000 in
theorem waypointref32_fields.calls (k : Nat) (A0 : Option Addr) (c0 : Nat) (l0 : List (S64)) (r : List Int) (w : World) (hr0 : Kd.C k64 w A0 l0.length l0) (hc0 : l0.length ≤ c0) (h : waypointref32_fields.f k l0 = some r) :
  Calls Try.prog 34 #[.slice A0 l0.length c0] w fun e w' => ∃ v0_ : Value, e = .returned (v0_) ∧ Kd.R (Kd.int .u8) 5 w' w.heap.size (fun _ => True) v0_ r ∧ Below w.heap.size w w' := by
 have HR0 := Aside0.mk hr0
 have HC0 := Aside0.mk hc0
 clear hr0 hc0
 have HB := Aside0.mk (Below.refl w.heap.size w)
 have H : (waypointref32_fields.l0 k l0 ([] : List Int) 0) = some r := h
 clear h
 have H' := Aside0.mk H
 clear H
 go_enter Try.func34, Try.ntmps34
 go_wp2
 go_loopg [3, 4] k (fun kq v3 v4 w' => ∃ (x3_1 : List Int) (x4_1 : Int), v4 = .int .i64 x4_1 ∧ Aside0 (waypointref32_fields.l0 kq l0 x3_1 x4_1 = some r) ∧ Aside0 (kq ≤ k) ∧ Aside0 (Kd.R (Kd.int .u8) 5 w' w.heap.size (fun _ => True) v3 x3_1) ∧ Aside0 (Below w.heap.size w w'))
 case atStart => exact ⟨(([] : List Int)), (0), (by first | rfl | (simp; done) | (simp [*]; done)), H', ⟨Nat.le_refl _⟩, ⟨by first | exact Kd.R_nil _ _ _ _ _ | exact Kd.N_nil _ _ _ _ _ | exact Kd.V_nil _ _ _ _ _ | exact Kd.Q_nil _ _ _ _ _ | exact Kd.S_nil _ _ _ _ _⟩, ⟨kw_ HB⟩⟩
 case round =>
  clear H'
  obtain ⟨x3_1, x4_1, rfl, HA, HK1, HO_3, HB⟩ := hrel
  cases gk with
  | zero => exact absurd HA.out (by simp [waypointref32_fields.l0])
  | succ k1 =>
   have H := HA.out
   clear HA
   simp only [waypointref32_fields.l0] at H
   by_cases c2 : x4_1 < (l0.length : Int)
   ·rw [if_pos c2] at H
    have c2b0 : decide (x4_1 < (l0.length : Int)) = true := decide_eq_true c2
    clear c2
    by_cases c3 : 0 ≤ x4_1
    ·rw [if_pos c3] at H
     have c3b0 : decide (0 ≤ x4_1) = true := decide_eq_true c3
     clear c3
     replace H := Option.bind_eq_some_iff.mp H
     obtain ⟨t284, A40, H⟩ := H
     replace H : (if x3_1.length + t284.length < 140737488355328 then (waypointref32_fields.l0 k1 l0 (x3_1 ++ t284) (wrap64 (x4_1 + 1))) else (none)) = some r := H
     have A4 := Aside0.mk A40
     clear A40
     by_cases c5 : x3_1.length + t284.length < 140737488355328
     ·rw [if_pos c5] at H
      have LMc5 := Aside0.mk c5
      clear c5
      obtain ⟨y287, hy287⟩ : ∃ y_ : List Int, y_ = (x3_1 ++ t284) := ⟨_, rfl⟩
      replace H : (waypointref32_fields.l0 k1 l0 y287 (wrap64 (x4_1 + 1))) = some r := by first | (rw [hy287]; with_reducible exact H) | (have H2_ := (Option.bind_some _ _).symm.trans H; rw [hy287]; with_reducible exact H2_) | (have H2_ := (Option.bind_some _ _).symm.trans H; with_reducible exact H2_) | with_reducible exact H | (rw [hy287]; exact H) | exact H
      have Ny287 := Aside0.mk hy287
      clear hy287
      have H' := Aside0.mk H
      clear H
      try go_wp2
      replace HO_3 := Aside0.mk (Kd.R_drew HO_3.out)
      replace HB := Aside0.mk (below_drew1 HB.out)
      have p282 : 0 ≤ (x4_1 : Int) := of_decide_eq_true (by first | (with_reducible assumption) | assumption)
      have q282 : x4_1 < (l0.length : Int) := of_decide_eq_true (by first | (with_reducible assumption) | assumption)
      obtain ⟨ad282, e282, hx282_0, hx282_1⟩ := at_T64 HR0.out x4_1 p282 q282
      have hw282_1 := hx282_1
      have hw282_0 := hx282_0
      cases e282
      replace hx282_0 := (HB.out.cell (World.block_lt_of_cell? w _ hx282_0)).trans hx282_0
      replace hx282_1 := (HB.out.cell (World.block_lt_of_cell? w _ hx282_1)).trans hx282_1
      replace p282 := eq_true p282
      replace q282 := eq_true q282
      have p283 : 0 ≤ (x4_1 : Int) := of_decide_eq_true (by first | (with_reducible assumption) | assumption)
      have q283 : x4_1 < (l0.length : Int) := of_decide_eq_true (by first | (with_reducible assumption) | assumption)
      obtain ⟨ad283, e283, hx283_0, hx283_1⟩ := at_T64 HR0.out x4_1 p283 q283
      have hw283_1 := hx283_1
      have hw283_0 := hx283_0
      obtain rfl : ad282 = ad283 := (by injection e283)
      replace hx283_0 := (HB.out.cell (World.block_lt_of_cell? w _ hx283_0)).trans hx283_0
      replace hx283_1 := (HB.out.cell (World.block_lt_of_cell? w _ hx283_1)).trans hx283_1
      replace p283 := eq_true p283
      replace q283 := eq_true q283
      refine start_ (n := 15) (S := fun w' => w'.cell? (ad282.add ((x4_1).toNat * 2)) = some (.int .i64 ((rd_T64 l0 x4_1).f0)) ∧ w'.cell? ⟨(ad282.add ((x4_1).toNat * 2)).block, (ad282.add ((x4_1).toNat * 2)).off + 1, none⟩ = some (.int .i64 ((rd_T64 l0 x4_1).f1)) ∧ w'.cell? (ad282.add ((x4_1).toNat * 2)) = some (.int .i64 ((rd_T64 l0 x4_1).f0)) ∧ w'.cell? ⟨(ad282.add ((x4_1).toNat * 2)).block, (ad282.add ((x4_1).toNat * 2)).off + 1, none⟩ = some (.int .i64 ((rd_T64 l0 x4_1).f1))) (ds := []) #[false, false, false, false, false, false, false, false, false, false, false, false, false, false, false] (by kernel_rfl) rfl rfl ⟨((HB.out.cell (World.block_lt_of_cell? w _ hw282_0)).trans hw282_0), ((HB.out.cell (World.block_lt_of_cell? w _ hw282_1)).trans hw282_1), ((HB.out.cell (World.block_lt_of_cell? w _ hw283_0)).trans hw283_0), ((HB.out.cell (World.block_lt_of_cell? w _ hw283_1)).trans hw283_1)⟩ (fun hHeld => ?_); refine with_tabW waypointref32_fields.tab5 waypointref32_fields.bits5 (fun HT_ HW_ => ?_)
      generalize wr.drew = w6 at HO_3 HB hx282_0 hx282_1 hx283_0 hx283_1 hHeld ⊢
      refine py 0 11 HT_ ?_
      refine py 1 12 HT_ ?_
      refine py 2 13 HT_ ?_
      refine py 3 14 HT_ ?_
      refine py 4 15 HT_ ?_
      refine py 7 18 HT_ ?_
      refine py 8 19 HT_ ?_
      refine py 9 20 HT_ ?_
      refine py 10 21 HT_ ?_
      refine ty 5 16 HT_ HW_ rfl (Or.inl ⟨by rfl, by rintro w' ⟨s0, s1, s2, s3⟩; go_simp; with_reducible rfl⟩) hHeld ?_
      refine py 6 17 HT_ ?_
      refine ty 11 22 HT_ HW_ rfl (Or.inl ⟨by rfl, by rintro w' ⟨s0, s1, s2, s3⟩; go_simp; with_reducible rfl⟩) hHeld ?_
      refine one_ (i := 12) (N := some 23) #[true, true, true, true, true, true, true, true, true, true, true, true, true, false, false] rfl rfl (one_of HT_.out (by kernel_rfl)) (by decide) (fun K hK => ?_)
      refine goes_ Try.func59 (by kernel_rfl) rfl #[.int .u64 (IntKind.u64.wrap ((rd_T64 l0 x4_1).f0)), .int .i64 ((rd_T64 l0 x4_1).f1)] (by rfl) rfl rfl (by (try simp only [List.map_toArray, List.map_cons, List.map_nil]); first | done | rfl | (simp only [List.length_drop, List.length_take]; rfl)) ?_
      with_reducible refine (waypointref07_Number.calls k1 (IntKind.u64.wrap ((rd_T64 l0 x4_1).f0)) ((rd_T64 l0 x4_1).f1) t284 _ A4.out).mono ?_
      rintro e w7 ⟨v285, rfl, ho0, hb⟩
      refine ⟨_, rfl, ?_⟩
      have HO286 := Aside0.mk (Kd.R_lower (Kd.R_new' ho0 (Kd.R_lt (by (with_reducible repeat (first | apply Kd.R_alloc | apply Kd.R_drewN | apply Kd.R_drew)); exact HO_3.out))) (below_size (kw_ HB)))
      replace HO_3 := Aside0.mk (Kd.R_elder' (by (with_reducible repeat (first | apply Kd.R_alloc | apply Kd.R_drewN | apply Kd.R_drew)); exact HO_3.out) (Kd.R_base ho0) hb)
      replace HB := bs_ HB hb
      (try clear hb)
      (try clear ho0)
      obtain ⟨Ao9, co9, eo9⟩ := Kd.R_slice HO286.out
      (first | subst eo9 | (injection eo9 with f1_ f2_ f3_; have f4_ := f1_.symm; have f5_ := f3_.symm; clear f1_ f2_ f3_; subst f4_; subst f5_))
      refine hK.out _ _ ⟨((HB.out.cell (World.block_lt_of_cell? w _ hw282_0)).trans hw282_0), ((HB.out.cell (World.block_lt_of_cell? w _ hw282_1)).trans hw282_1), ((HB.out.cell (World.block_lt_of_cell? w _ hw283_0)).trans hw283_0), ((HB.out.cell (World.block_lt_of_cell? w _ hw283_1)).trans hw283_1)⟩ (fun hHeld => ?_)
      clear hK K
      refine norm_ (a' := ?_) ?_ ?_
      rotate_left
      ·show Act.put _ (some 23) _ = _
       simp only [Act.put, List.setIfInBounds_toArray, List.set_cons_zero, List.set_cons_succ, i64_w, i32_w]
       rfl
      refine one_ (i := 13) (N := some 24) #[true, true, true, true, true, true, true, true, true, true, true, true, true, true, false] rfl rfl (one_of HT_.out (by kernel_rfl)) (by decide) (fun K hK => ?_)
      refine Kd.R_append_rows_step (Kd.int .u8) (w0 := w) w.heap.size (by rfl) (.tmp 11) (.tmp 23) 28 5 (.int .u8 0) 1 rfl Try.underlying28 info5 rfl (by decide) (by omega) u3 x3_1 t284 _ _ _ (fun k_ => some k_ ≠ (.slice Ao9 t284.length co9 : Value).ownBlock) (fun _ => False) rfl rfl ?aO ?aR (fun _ _ h => h) (fun _ h => h.elim) ?aF ?aB ?aS ?aL ?_
      (case aR => repeat (first | exact (Kd.R_reads' HO286.out).2.2 | (with_reducible refine Kd.C_alloc ?_ _) | (with_reducible refine Kd.C_drewN ?_ _) | (with_reducible refine Kd.C_drew ?_)))
      (case aB => exact (kw_ HB))
      (case aF => exact (fun k_ hk => Kd.fresh' (Kd.R_lt (by (with_reducible repeat (first | apply Kd.R_alloc | apply Kd.R_drewN | apply Kd.R_drew)); exact HO286.out)) k_ hk))
      (case aO => exact (by (with_reducible repeat (first | apply Kd.R_alloc | apply Kd.R_drewN | apply Kd.R_drew)); exact Kd.R_mono HO_3.out (fun _ hk => hk.2)))
      (case aS => exact (below_size (kw_ HB)))
      (case aL => have := LMc5.out; omega)
      intro v288 w8 ho hb hg hat
      rw [← Ny287.out] at ho
      have HO289 := Aside0.mk (ho)
      replace HO286 := Aside0.mk (Kd.R_after (ok := (fun _ => True)) (by (with_reducible repeat (first | apply Kd.R_alloc | apply Kd.R_drewN | apply Kd.R_drew)); exact HO286.out) hg hat)
      replace HB := Aside0.mk (hb)
      clear HO_3
      clear ho hb hg hat
      refine hK.out _ _ ⟨((HB.out.cell (World.block_lt_of_cell? w _ hw282_0)).trans hw282_0), ((HB.out.cell (World.block_lt_of_cell? w _ hw282_1)).trans hw282_1), ((HB.out.cell (World.block_lt_of_cell? w _ hw283_0)).trans hw283_0), ((HB.out.cell (World.block_lt_of_cell? w _ hw283_1)).trans hw283_1)⟩ (fun hHeld => ?_)
      clear hK K
      refine norm_ (a' := ?_) ?_ ?_
      rotate_left
      ·show Act.put _ (some 24) _ = _
       simp only [Act.put, List.setIfInBounds_toArray, List.set_cons_zero, List.set_cons_succ, i64_w, i32_w]
       rfl
      refine py 14 3 HT_ ?_
      refine done_ (done_of HT_.out (by kernel_rfl)) ?_
      try go_wp2
      go_roundg k1
      case measure => have := HK1.out; omega
      case rel => exact ⟨(y287), (wrap64 (x4_1 + 1)), (by first | rfl | (simp; done) | (simp [*]; done)), H', ⟨by have := HK1.out; omega⟩, ⟨by (with_reducible repeat (first | apply Kd.R_alloc | apply Kd.R_drewN | apply Kd.R_drew)); exact Kd.R_mono HO289.out (fun _ hk => trivial)⟩, ⟨kw_ HB⟩⟩
     ·rw [if_neg c5] at H
      exact absurd H (by simp)
    ·rw [if_neg c3] at H
     exact absurd H (by simp)
   ·rw [if_neg c2] at H
    have c2b0 : decide (x4_1 < (l0.length : Int)) = false := decide_eq_false c2
    clear c2
    obtain rfl := Option.some.inj H
    go_wp2
    go_ret
    exact ⟨_, by first | rfl | (simp [errW_none, errW_some] <;> rfl) | (simp [*, errW_none, errW_some] <;> rfl), by (with_reducible repeat (first | apply Kd.R_alloc | apply Kd.R_drewN | apply Kd.R_drew)); exact HO_3.out, kw_ HB⟩

/-! ### waypointref07_Encode: function 35 -/
mutual
def waypointref07_Encode.l0 : Nat → List (S65) → List Int → Int → Option (List Int × Int)
 | 0, _, _, _ => none
 | k + 1, x0, x4, x5 => if x5 < (x0.length : Int) then (if 0 ≤ x5 then (if ((rd_T65 x0 x5).f0) < 1 then (waypointref07_Encode.j1 k x0 x4 x5 (((rd_T65 x0 x5).f1).length : Int) true) else (waypointref07_Encode.j1 k x0 x4 x5 (((rd_T65 x0 x5).f1).length : Int) (decide (((rd_T65 x0 x5).f0) > 255)))) else (none)) else (some (x4, 0))
def waypointref07_Encode.j1 : Nat → List (S65) → List Int → Int → Int → Bool → Option (List Int × Int)
 | 0, _, _, _, _, _ => none
 | k + 1, x0, x4, x5, x6, x32 => if x32 = true then (some (([] : List Int), 1)) else (if x6 > 65535 then (some (([] : List Int), 6)) else (if 0 ≤ x5 then (if x5 < (x0.length : Int) then ((some (([((rd_T65 x0 x5).f0) % 256, (wrap64 (x6 / 256)) % 256, x6 % 256] : List Int) : List Int)).bind fun y294 => (if x4.length + y294.length < 140737488355328 then ((some (x4 ++ y294 : List Int)).bind fun y297 => (if y297.length + ((rd_T65 x0 x5).f1).length < 140737488355328 then (waypointref07_Encode.l0 k x0 (y297 ++ ((rd_T65 x0 x5).f1)) (wrap64 (x5 + 1))) else (none))) else (none))) else (none)) else (none)))
end
def waypointref07_Encode.f (k : Nat) (l0 : List (S65)) : Option (List Int × Int) := waypointref07_Encode.l0 k l0 ([] : List Int) 0
theorem waypointref07_Encode.mono_l : ∀ k, (∀ y0 y1 y2, LeO (waypointref07_Encode.l0 k y0 y1 y2) (waypointref07_Encode.l0 (k + 1) y0 y1 y2)) ∧ (∀ y0 y1 y2 y3 y4, LeO (waypointref07_Encode.j1 k y0 y1 y2 y3 y4) (waypointref07_Encode.j1 (k + 1) y0 y1 y2 y3 y4))
 | 0 => ⟨fun _ _ _ r h => by simp [waypointref07_Encode.l0] at h, fun _ _ _ _ _ r h => by simp [waypointref07_Encode.j1] at h⟩
 | k + 1 => by
  obtain ⟨ih0, ih1⟩ := waypointref07_Encode.mono_l k
  refine ⟨?_, ?_⟩
  ·intro y0 y1 y2
   unfold waypointref07_Encode.l0
   repeat' first
   | (with_reducible exact ih0 _ _ _)
   | (with_reducible exact ih1 _ _ _ _ _)
   | (with_reducible exact LeO.refl _)
   | (with_reducible exact LeO.none _)
   | (with_reducible refine LeO.ite ?_ ?_)
   | (with_reducible refine LeO.bind ?_ (fun _ => ?_))
   | exact ih0 _ _ _
   | exact ih1 _ _ _ _ _
   | exact LeO.none _
   | refine LeO.ite ?_ ?_
   | refine LeO.bind ?_ (fun _ => ?_)
  ·intro y0 y1 y2 y3 y4
   unfold waypointref07_Encode.j1
   repeat' first
   | (with_reducible exact ih0 _ _ _)
   | (with_reducible exact ih1 _ _ _ _ _)
   | (with_reducible exact LeO.refl _)
   | (with_reducible exact LeO.none _)
   | (with_reducible refine LeO.ite ?_ ?_)
   | (with_reducible refine LeO.bind ?_ (fun _ => ?_))
   | exact ih0 _ _ _
   | exact ih1 _ _ _ _ _
   | exact LeO.none _
   | refine LeO.ite ?_ ?_
   | refine LeO.bind ?_ (fun _ => ?_)
theorem waypointref07_Encode.mono : ∀ a0 k, LeO (waypointref07_Encode.f k a0) (waypointref07_Encode.f (k + 1) a0) := by
 intro a0 k
 obtain ⟨ih0, ih1⟩ := waypointref07_Encode.mono_l k
 unfold waypointref07_Encode.f
 repeat' first
   | (with_reducible exact ih0 _ _ _)
   | (with_reducible exact ih1 _ _ _ _ _)
   | (with_reducible exact LeO.refl _)
   | (with_reducible exact LeO.none _)
   | (with_reducible refine LeO.ite ?_ ?_)
   | (with_reducible refine LeO.bind ?_ (fun _ => ?_))
   | exact ih0 _ _ _
   | exact ih1 _ _ _ _ _
   | exact LeO.none _
   | refine LeO.ite ?_ ?_
   | refine LeO.bind ?_ (fun _ => ?_)
set_option maxHeartbeats 8000000 in
set_option maxRecDepth 100000 in
theorem waypointref07_Encode.calls (k : Nat) (A0 : Option Addr) (c0 : Nat) (l0 : List (S65)) (r1 : List Int) (r2 : Int) (w : World) (hr0 : Kd.C k65 w A0 l0.length l0) (hc0 : l0.length ≤ c0) (h : waypointref07_Encode.f k l0 = some (r1, r2)) :
  Calls Try.prog 35 #[.slice A0 l0.length c0] w fun e w' => ∃ v0_ : Value, e = .returned (.tuple #[v0_, .int .i64 r2]) ∧ Kd.R (Kd.int .u8) 5 w' w.heap.size (fun _ => True) v0_ r1 ∧ Below w.heap.size w w' := by
 have HR0 := Aside0.mk hr0
 have HC0 := Aside0.mk hc0
 clear hr0 hc0
 have HB := Aside0.mk (Below.refl w.heap.size w)
 have H : (waypointref07_Encode.l0 k l0 ([] : List Int) 0) = some (r1, r2) := h
 clear h
 have H' := Aside0.mk H
 clear H
 go_enter Try.func35, Try.ntmps35
 go_wp2
 go_loopg [4, 5] k (fun kq v4 v5 w' => ∃ (x4_1 : List Int) (x5_1 : Int), v5 = .int .i64 x5_1 ∧ Aside0 (waypointref07_Encode.l0 kq l0 x4_1 x5_1 = some (r1, r2)) ∧ Aside0 (kq ≤ k) ∧ Aside0 (Kd.R (Kd.int .u8) 5 w' w.heap.size (fun _ => True) v4 x4_1) ∧ Aside0 (Below w.heap.size w w'))
 case atStart => exact ⟨(([] : List Int)), (0), (by first | rfl | (simp; done) | (simp [*]; done)), H', ⟨Nat.le_refl _⟩, ⟨by first | exact Kd.R_nil _ _ _ _ _ | exact Kd.N_nil _ _ _ _ _ | exact Kd.V_nil _ _ _ _ _ | exact Kd.Q_nil _ _ _ _ _ | exact Kd.S_nil _ _ _ _ _⟩, ⟨kw_ HB⟩⟩
 case round =>
  clear H'
  obtain ⟨x4_1, x5_1, rfl, HA, HK1, HO_4, HB⟩ := hrel
  cases gk with
  | zero => exact absurd HA.out (by simp [waypointref07_Encode.l0])
  | succ k1 =>
   have H := HA.out
   clear HA
   simp only [waypointref07_Encode.l0] at H
   by_cases c2 : x5_1 < (l0.length : Int)
   ·rw [if_pos c2] at H
    have c2b0 : decide (x5_1 < (l0.length : Int)) = true := decide_eq_true c2
    clear c2
    by_cases c3 : 0 ≤ x5_1
    ·rw [if_pos c3] at H
     have c3b0 : decide (0 ≤ x5_1) = true := decide_eq_true c3
     clear c3
     have HC4 := Aside0.mk H
     clear H
     have p290 : 0 ≤ (x5_1 : Int) := of_decide_eq_true (by first | (with_reducible assumption) | assumption)
     have q290 : x5_1 < (l0.length : Int) := of_decide_eq_true (by first | (with_reducible assumption) | assumption)
     obtain ⟨ad290, A290_1, c290_1, e290, hx290_0, hx290_1, hl290_1, hi290_1⟩ := at_T65 HR0.out x5_1 p290 q290
     cases e290
     replace hx290_0 := (HB.out.cell (World.block_lt_of_cell? w _ hx290_0)).trans hx290_0
     replace hx290_1 := (HB.out.cell (World.block_lt_of_cell? w _ hx290_1)).trans hx290_1
     have HR290_1 := Aside0.mk hi290_1
     have HC290_1 := Aside0.mk hl290_1
     clear hi290_1 hl290_1
     replace p290 := eq_true p290
     replace q290 := eq_true q290
     go_upto_region 6 with (fail)
     go_cut [32] (fun v32 wc => ∃ (kq : Nat) (x32_3 : Bool), v32 = .bool x32_3 ∧ Aside0 (waypointref07_Encode.j1 kq l0 x4_1 x5_1 (((rd_T65 l0 x5_1).f1).length : Int) x32_3 = some (r1, r2)) ∧ Aside0 (kq ≤ k1) ∧ Aside0 (Kd.R (Kd.int .u8) 5 wc w.heap.size (fun _ => True) u4 x4_1) ∧ Aside0 (Below w.heap.size w wc))
     case first =>
      have H := HC4.out
      clear HC4
      by_cases c5 : ((rd_T65 l0 x5_1).f0) < 1
      ·rw [if_pos c5] at H
       have c5b0 : decide (((rd_T65 l0 x5_1).f0) < 1) = true := decide_eq_true c5
       clear c5
       (first | rw [c5b0] | (simp only [i64_w, i32_w]; rw [c5b0]) | skip)
       have H' := Aside0.mk H
       clear H
       have p291 : 0 ≤ (x5_1 : Int) := of_decide_eq_true (by first | (with_reducible assumption) | assumption)
       have q291 : x5_1 < (l0.length : Int) := of_decide_eq_true (by first | (with_reducible assumption) | assumption)
       obtain ⟨ad291, A291_1, c291_1, e291, hx291_0, hx291_1, hl291_1, hi291_1⟩ := at_T65 HR0.out x5_1 p291 q291
       obtain rfl : ad290 = ad291 := (by injection e291)
       replace hx291_0 := (HB.out.cell (World.block_lt_of_cell? w _ hx291_0)).trans hx291_0
       replace hx291_1 := (HB.out.cell (World.block_lt_of_cell? w _ hx291_1)).trans hx291_1
       have HR291_1 := Aside0.mk hi291_1
       have HC291_1 := Aside0.mk hl291_1
       clear hi291_1 hl291_1
       replace p291 := eq_true p291
       replace q291 := eq_true q291
       go_wp2
       go_meet
       case rel => exact ⟨_, (true), (by first | rfl | (simp; done) | (simp [*]; done)), H', ⟨by have := HK1.out; first | omega | exact Nat.le_refl _⟩, ⟨by (with_reducible repeat (first | apply Kd.R_alloc | apply Kd.R_drewN | apply Kd.R_drew)); exact HO_4.out⟩, ⟨kw_ HB⟩⟩
      ·rw [if_neg c5] at H
       have c5b0 : decide (((rd_T65 l0 x5_1).f0) < 1) = false := decide_eq_false c5
       clear c5
       (first | rw [c5b0] | (simp only [i64_w, i32_w]; rw [c5b0]) | skip)
       have H' := Aside0.mk H
       clear H
       have p291 : 0 ≤ (x5_1 : Int) := of_decide_eq_true (by first | (with_reducible assumption) | assumption)
       have q291 : x5_1 < (l0.length : Int) := of_decide_eq_true (by first | (with_reducible assumption) | assumption)
       obtain ⟨ad291, A291_1, c291_1, e291, hx291_0, hx291_1, hl291_1, hi291_1⟩ := at_T65 HR0.out x5_1 p291 q291
       obtain rfl : ad290 = ad291 := (by injection e291)
       replace hx291_0 := (HB.out.cell (World.block_lt_of_cell? w _ hx291_0)).trans hx291_0
       replace hx291_1 := (HB.out.cell (World.block_lt_of_cell? w _ hx291_1)).trans hx291_1
       have HR291_1 := Aside0.mk hi291_1
       have HC291_1 := Aside0.mk hl291_1
       clear hi291_1 hl291_1
       replace p291 := eq_true p291
       replace q291 := eq_true q291
       have p292 : 0 ≤ (x5_1 : Int) := of_decide_eq_true (by first | (with_reducible assumption) | assumption)
       have q292 : x5_1 < (l0.length : Int) := of_decide_eq_true (by first | (with_reducible assumption) | assumption)
       obtain ⟨ad292, A292_1, c292_1, e292, hx292_0, hx292_1, hl292_1, hi292_1⟩ := at_T65 HR0.out x5_1 p292 q292
       obtain rfl : ad290 = ad292 := (by injection e292)
       replace hx292_0 := (HB.out.cell (World.block_lt_of_cell? w _ hx292_0)).trans hx292_0
       replace hx292_1 := (HB.out.cell (World.block_lt_of_cell? w _ hx292_1)).trans hx292_1
       have HR292_1 := Aside0.mk hi292_1
       have HC292_1 := Aside0.mk hl292_1
       clear hi292_1 hl292_1
       replace p292 := eq_true p292
       replace q292 := eq_true q292
       have ea_ := Option.some.inj (hx291_1.symm.trans hx292_1)
       injection ea_ with ea_ en_ ec_
       subst ea_
       subst ec_
       clear en_
       go_wp2
       go_meet
       case rel => exact ⟨_, (decide (((rd_T65 l0 x5_1).f0) > 255)), (by first | rfl | (simp; done) | (simp [*]; done)), H', ⟨by have := HK1.out; first | omega | exact Nat.le_refl _⟩, ⟨by (with_reducible repeat (first | apply Kd.R_alloc | apply Kd.R_drewN | apply Kd.R_drew)); exact HO_4.out⟩, ⟨kw_ HB⟩⟩
     case rest =>
      clear HC4
      (try clear c2); (try clear c2b0); (try clear c3); (try clear c3b0); (try clear hx290_0); (try clear hx290_1); (try clear p290); (try clear q290)
      obtain ⟨kq, x32_3, rfl, HA, HJ3, HO_4, HB⟩ := hcut
      cases kq with
      | zero => exact absurd HA.out (by simp [waypointref07_Encode.j1])
      | succ kj3 =>
       have H := HA.out
       clear HA
       simp only [waypointref07_Encode.j1] at H
       by_cases c6 : x32_3 = true
       ·subst c6
        have H1 : (some (([] : List Int), 1)) = some (r1, r2) := by rw [if_pos rfl] at H; exact H
        clear H
        have H := H1
        clear H1
        simp only [Option.some.injEq, Prod.mk.injEq] at H
        obtain ⟨rfl, rfl⟩ := H
        go_wp2
        go_ret2
        exact ⟨_, by first | rfl | (simp [errW_none, errW_some] <;> rfl) | (simp [*, errW_none, errW_some] <;> rfl), by first | exact Kd.R_nil _ _ _ _ _ | exact Kd.N_nil _ _ _ _ _ | exact Kd.V_nil _ _ _ _ _ | exact Kd.Q_nil _ _ _ _ _ | exact Kd.S_nil _ _ _ _ _, kw_ HB⟩
       ·replace c6 := Bool.eq_false_iff.mpr c6
        subst c6
        have H1 : (if (((rd_T65 l0 x5_1).f1).length : Int) > 65535 then (some (([] : List Int), 6)) else (if 0 ≤ x5_1 then (if x5_1 < (l0.length : Int) then ((some (([((rd_T65 l0 x5_1).f0) % 256, (wrap64 ((((rd_T65 l0 x5_1).f1).length : Int) / 256)) % 256, (((rd_T65 l0 x5_1).f1).length : Int) % 256] : List Int) : List Int)).bind fun y294 => (if x4_1.length + y294.length < 140737488355328 then ((some (x4_1 ++ y294 : List Int)).bind fun y297 => (if y297.length + ((rd_T65 l0 x5_1).f1).length < 140737488355328 then (waypointref07_Encode.l0 kj3 l0 (y297 ++ ((rd_T65 l0 x5_1).f1)) (wrap64 (x5_1 + 1))) else (none))) else (none))) else (none)) else (none))) = some (r1, r2) := by rw [if_neg (show ¬ (false = true) by decide)] at H; exact H
        clear H
        have H := H1
        clear H1
        by_cases c7 : (((rd_T65 l0 x5_1).f1).length : Int) > 65535
        ·rw [if_pos c7] at H
         have c7b0 : decide (65535 < (((rd_T65 l0 x5_1).f1).length : Int)) = true := decide_eq_true c7
         have c7b1 : decide (65535 < ((rd_T65 l0 x5_1).f1).length) = true := decide_eq_true (by omega)
         clear c7
         simp only [Option.some.injEq, Prod.mk.injEq] at H
         obtain ⟨rfl, rfl⟩ := H
         go_wp2
         go_ret2
         exact ⟨_, by first | rfl | (simp [errW_none, errW_some] <;> rfl) | (simp [*, errW_none, errW_some] <;> rfl), by first | exact Kd.R_nil _ _ _ _ _ | exact Kd.N_nil _ _ _ _ _ | exact Kd.V_nil _ _ _ _ _ | exact Kd.Q_nil _ _ _ _ _ | exact Kd.S_nil _ _ _ _ _, kw_ HB⟩
        ·rw [if_neg c7] at H
         have c7b0 : decide (65535 < (((rd_T65 l0 x5_1).f1).length : Int)) = false := decide_eq_false c7
         have c7b1 : decide (65535 < ((rd_T65 l0 x5_1).f1).length) = false := decide_eq_false (by omega)
         clear c7
         by_cases c8 : 0 ≤ x5_1
         ·rw [if_pos c8] at H
          have c8b0 : decide (0 ≤ x5_1) = true := decide_eq_true c8
          clear c8
          by_cases c9 : x5_1 < (l0.length : Int)
          ·rw [if_pos c9] at H
           have c9b0 : decide (x5_1 < (l0.length : Int)) = true := decide_eq_true c9
           clear c9
           obtain ⟨y294, hy294⟩ : ∃ y_ : List Int, y_ = (([((rd_T65 l0 x5_1).f0) % 256, (wrap64 ((((rd_T65 l0 x5_1).f1).length : Int) / 256)) % 256, (((rd_T65 l0 x5_1).f1).length : Int) % 256] : List Int)) := ⟨_, rfl⟩
           replace H : (if x4_1.length + y294.length < 140737488355328 then ((some (x4_1 ++ y294 : List Int)).bind fun y297 => (if y297.length + ((rd_T65 l0 x5_1).f1).length < 140737488355328 then (waypointref07_Encode.l0 kj3 l0 (y297 ++ ((rd_T65 l0 x5_1).f1)) (wrap64 (x5_1 + 1))) else (none))) else (none)) = some (r1, r2) := by first | (rw [hy294]; with_reducible exact H) | (have H2_ := (Option.bind_some _ _).symm.trans H; rw [hy294]; with_reducible exact H2_) | (have H2_ := (Option.bind_some _ _).symm.trans H; with_reducible exact H2_) | with_reducible exact H | (rw [hy294]; exact H) | exact H
           have Ny294 := Aside0.mk hy294
           clear hy294
           by_cases c10 : x4_1.length + y294.length < 140737488355328
           ·rw [if_pos c10] at H
            have LMc10 := Aside0.mk c10
            clear c10
            obtain ⟨y297, hy297⟩ : ∃ y_ : List Int, y_ = (x4_1 ++ y294) := ⟨_, rfl⟩
            replace H : (if y297.length + ((rd_T65 l0 x5_1).f1).length < 140737488355328 then (waypointref07_Encode.l0 kj3 l0 (y297 ++ ((rd_T65 l0 x5_1).f1)) (wrap64 (x5_1 + 1))) else (none)) = some (r1, r2) := by first | (rw [hy297]; with_reducible exact H) | (have H2_ := (Option.bind_some _ _).symm.trans H; rw [hy297]; with_reducible exact H2_) | (have H2_ := (Option.bind_some _ _).symm.trans H; with_reducible exact H2_) | with_reducible exact H | (rw [hy297]; exact H) | exact H
            have Ny297 := Aside0.mk hy297
            clear hy297
            by_cases c11 : y297.length + ((rd_T65 l0 x5_1).f1).length < 140737488355328
            ·rw [if_pos c11] at H
             have LMc11 := Aside0.mk c11
             clear c11
             obtain ⟨y301, hy301⟩ : ∃ y_ : List Int, y_ = (y297 ++ ((rd_T65 l0 x5_1).f1)) := ⟨_, rfl⟩
             replace H : (waypointref07_Encode.l0 kj3 l0 y301 (wrap64 (x5_1 + 1))) = some (r1, r2) := by first | (rw [hy301]; with_reducible exact H) | (have H2_ := (Option.bind_some _ _).symm.trans H; rw [hy301]; with_reducible exact H2_) | (have H2_ := (Option.bind_some _ _).symm.trans H; with_reducible exact H2_) | with_reducible exact H | (rw [hy301]; exact H) | exact H
             have Ny301 := Aside0.mk hy301
             clear hy301
             have H' := Aside0.mk H
             clear H
             have p293 : 0 ≤ (x5_1 : Int) := of_decide_eq_true (by first | (with_reducible assumption) | assumption)
             have q293 : x5_1 < (l0.length : Int) := of_decide_eq_true (by first | (with_reducible assumption) | assumption)
             obtain ⟨ad293, A293_1, c293_1, e293, hx293_0, hx293_1, hl293_1, hi293_1⟩ := at_T65 HR0.out x5_1 p293 q293
             obtain rfl : ad290 = ad293 := (by injection e293)
             replace hx293_0 := (HB.out.cell (World.block_lt_of_cell? w _ hx293_0)).trans hx293_0
             replace hx293_1 := (HB.out.cell (World.block_lt_of_cell? w _ hx293_1)).trans hx293_1
             have HR293_1 := Aside0.mk hi293_1
             have HC293_1 := Aside0.mk hl293_1
             clear hi293_1 hl293_1
             replace p293 := eq_true p293
             replace q293 := eq_true q293
             go_wp2_with (first | ((with_reducible refine gate_dst (N := 48) rfl ?_); refine Kd.R_lit (Kd.int .u8) _ 5 ?hg (N := 48) ?hd (xs := ([((rd_T65 l0 x5_1).f0) % 256, (wrap64 ((((rd_T65 l0 x5_1).f1).length : Int) / 256)) % 256, (((rd_T65 l0 x5_1).f1).length : Int) % 256] : List Int)) (inner := [.int .u8 (((rd_T65 l0 x5_1).f0) % 256), .int .u8 ((wrap64 ((((rd_T65 l0 x5_1).f1).length : Int) / 256)) % 256), .int .u8 ((((rd_T65 l0 x5_1).f1).length : Int) % 256)]) (ok := fun _ => True) (okp := fun _ => True) ?hr ?hp (fun _ hk => hk) trivial (Below.refl _ _) (Nat.le_refl _) (by simp) ?_; (case hd => rfl); (case hg => rfl); (case hr => first | (go_simp; done) | (go_simp; rfl)); (case hp => exact (Reps.one (show Kd.M (Kd.int .u8) _ _ _ (((rd_T65 l0 x5_1).f0) % 256) [.int .u8 (((rd_T65 l0 x5_1).f0) % 256)] from rfl) (Reps.one (show Kd.M (Kd.int .u8) _ _ _ ((wrap64 ((((rd_T65 l0 x5_1).f1).length : Int) / 256)) % 256) [.int .u8 ((wrap64 ((((rd_T65 l0 x5_1).f1).length : Int) / 256)) % 256)] from rfl) (Reps.one (show Kd.M (Kd.int .u8) _ _ _ ((((rd_T65 l0 x5_1).f1).length : Int) % 256) [.int .u8 ((((rd_T65 l0 x5_1).f1).length : Int) % 256)] from rfl) (Reps.none _ _))))); intro v295 w12 ho13 hb hg_ hnew_; clear hg_ hnew_; (first | rw [← Ny294.out] at ho13 | (simp only [Int.reduceToNat] at ho13; rw [← Ny294.out] at ho13)); have HO296 := Aside0.mk (Kd.R_lower (Kd.R_new' ho13 (Kd.R_lt (by (with_reducible repeat (first | apply Kd.R_alloc | apply Kd.R_drewN | apply Kd.R_drew)); exact HO_4.out))) (below_size (kw_ HB))); replace HO_4 := Aside0.mk (Kd.R_elder' (by (with_reducible repeat (first | apply Kd.R_alloc | apply Kd.R_drewN | apply Kd.R_drew)); exact HO_4.out) (Kd.R_base ho13) hb); replace HB := bs_ HB hb; clear hb ho13; obtain ⟨Ao15, co15, eo15⟩ := Kd.R_slice HO296.out; subst eo15) | ((with_reducible refine gate_builtin (b := .append) (xs := #[.tmp 35, .tmp 48]) rfl ?_); at_builtin; refine Kd.R_append_rows (Kd.int .u8) (w0 := w) w.heap.size rfl (.tmp 35) (.tmp 48) 28 5 (.int .u8 0) 1 rfl Try.underlying28 info5 rfl (by decide) (by omega) u4 x4_1 y294 _ _ _ (fun k_ => some k_ ≠ (.slice Ao15 y294.length co15 : Value).ownBlock) (fun _ => False) rfl rfl ?aO ?aR (fun _ _ h => h) (fun _ h => h.elim) ?aF ?aB ?aS ?aL ?_; (case aR => repeat (first | exact (Kd.R_reads' HO296.out).2.2 | (with_reducible refine Kd.C_alloc ?_ _) | (with_reducible refine Kd.C_drewN ?_ _) | (with_reducible refine Kd.C_drew ?_))); (case aB => exact (kw_ HB)); (case aF => exact (fun k_ hk => Kd.fresh' (Kd.R_lt (by (with_reducible repeat (first | apply Kd.R_alloc | apply Kd.R_drewN | apply Kd.R_drew)); exact HO296.out)) k_ hk)); (case aO => exact (by (with_reducible repeat (first | apply Kd.R_alloc | apply Kd.R_drewN | apply Kd.R_drew)); exact Kd.R_mono HO_4.out (fun _ hk => hk.2))); (case aS => exact (below_size (kw_ HB))); (case aL => have := LMc10.out; omega); intro v298 w14 ho hb hg hat; rw [← Ny297.out] at ho; have HO299 := Aside0.mk (ho); replace HO296 := Aside0.mk (Kd.R_after (ok := (fun _ => True)) (by (with_reducible repeat (first | apply Kd.R_alloc | apply Kd.R_drewN | apply Kd.R_drew)); exact HO296.out) hg hat); replace HB := Aside0.mk (hb); clear HO_4; clear ho hb hg hat; have p300 : 0 ≤ (x5_1 : Int) := of_decide_eq_true (by first | (with_reducible assumption) | assumption); have q300 : x5_1 < (l0.length : Int) := of_decide_eq_true (by first | (with_reducible assumption) | assumption); obtain ⟨ad300, A300_1, c300_1, e300, hx300_0, hx300_1, hl300_1, hi300_1⟩ := at_T65 HR0.out x5_1 p300 q300; obtain rfl : ad290 = ad300 := (by injection e300); replace hx300_0 := (HB.out.cell (World.block_lt_of_cell? w _ hx300_0)).trans hx300_0; replace hx300_1 := (HB.out.cell (World.block_lt_of_cell? w _ hx300_1)).trans hx300_1; have HR300_1 := Aside0.mk hi300_1; have HC300_1 := Aside0.mk hl300_1; clear hi300_1 hl300_1; replace p300 := eq_true p300; replace q300 := eq_true q300) | ((with_reducible refine gate_builtin (b := .append) (xs := #[.tmp 50, .tmp 55]) rfl ?_); at_builtin; refine Kd.R_append_rows (Kd.int .u8) (w0 := w) w.heap.size rfl (.tmp 50) (.tmp 55) 28 5 (.int .u8 0) 1 rfl Try.underlying28 info5 rfl (by decide) (by omega) v298 y297 ((rd_T65 l0 x5_1).f1) _ _ _ (fun k_ => some k_ ≠ (.slice Ao15 y294.length co15 : Value).ownBlock) (fun _ => False) rfl rfl ?aO ?aR (fun _ _ h => h) (fun _ h => h.elim) ?aF ?aB ?aS ?aL ?_; (case aR => repeat (first | exact (Kd.C_below HR300_1.out HB.out) | (with_reducible refine Kd.C_alloc ?_ _) | (with_reducible refine Kd.C_drewN ?_ _) | (with_reducible refine Kd.C_drew ?_))); (case aB => exact (kw_ HB)); (case aF => exact (fun k_ hk => Kd.fresh' (Kd.R_lt (by (with_reducible repeat (first | apply Kd.R_alloc | apply Kd.R_drewN | apply Kd.R_drew)); exact HO296.out)) k_ hk)); (case aO => exact (by (with_reducible repeat (first | apply Kd.R_alloc | apply Kd.R_drewN | apply Kd.R_drew)); exact HO299.out)); (case aS => exact (below_size (kw_ HB))); (case aL => have := LMc11.out; omega); intro v302 w16 ho hb hg hat; rw [← Ny301.out] at ho; have HO303 := Aside0.mk (ho); replace HO296 := Aside0.mk (Kd.R_after (ok := (fun _ => True)) (by (with_reducible repeat (first | apply Kd.R_alloc | apply Kd.R_drewN | apply Kd.R_drew)); exact HO296.out) hg hat); replace HB := Aside0.mk (hb); clear HO299; clear ho hb hg hat))
             go_roundg kj3
             case measure => have := HK1.out; have := HJ3.out; omega
             case rel => exact ⟨(y301), (wrap64 (x5_1 + 1)), (by first | rfl | (simp; done) | (simp [*]; done)), H', ⟨by have := HK1.out; have := HJ3.out; omega⟩, ⟨by (with_reducible repeat (first | apply Kd.R_alloc | apply Kd.R_drewN | apply Kd.R_drew)); exact Kd.R_mono HO303.out (fun _ hk => trivial)⟩, ⟨kw_ HB⟩⟩
            ·rw [if_neg c11] at H
             exact absurd H (by simp)
           ·rw [if_neg c10] at H
            exact absurd H (by simp)
          ·rw [if_neg c9] at H
           exact absurd H (by simp)
         ·rw [if_neg c8] at H
          exact absurd H (by simp)
    ·rw [if_neg c3] at H
     exact absurd H (by simp)
   ·rw [if_neg c2] at H
    have c2b0 : decide (x5_1 < (l0.length : Int)) = false := decide_eq_false c2
    clear c2
    simp only [Option.some.injEq, Prod.mk.injEq] at H
    obtain ⟨rfl, rfl⟩ := H
    go_wp2
    go_ret2
    exact ⟨_, by first | rfl | (simp [errW_none, errW_some] <;> rfl) | (simp [*, errW_none, errW_some] <;> rfl), by (with_reducible repeat (first | apply Kd.R_alloc | apply Kd.R_drewN | apply Kd.R_drew)); exact HO_4.out, kw_ HB⟩

/-! ### waypointref08_Sum: function 41 -/
def waypointref08_Sum.l0 : Nat → List Int → Int → Int → Int → Option (Int × Int)
 | 0, _, _, _, _ => none
 | k + 1, x0, x4, x5, x6 => if x6 < (x0.length : Int) then (if 0 ≤ x6 then (waypointref08_Sum.l0 k x0 (Int.tmod (wrap64 (x4 + (wrap64 (rd x0 x6)))) 255) (Int.tmod (wrap64 (x5 + (wrap64 ((Int.tmod (wrap64 ((x0.length : Int) - x6)) 255) * (wrap64 (rd x0 x6)))))) 255) (wrap64 (x6 + 1))) else (none)) else (some (x4, x5))
def waypointref08_Sum.f (k : Nat) (l0 : List Int) : Option (Int × Int) := waypointref08_Sum.l0 k l0 0 0 0
theorem waypointref08_Sum.mono_l : ∀ k, (∀ y0 y1 y2 y3, LeO (waypointref08_Sum.l0 k y0 y1 y2 y3) (waypointref08_Sum.l0 (k + 1) y0 y1 y2 y3))
 | 0 => fun _ _ _ _ r h => by simp [waypointref08_Sum.l0] at h
 | k + 1 => by
  have ih0 := waypointref08_Sum.mono_l k
  ·intro y0 y1 y2 y3
   unfold waypointref08_Sum.l0
   repeat' first
   | (with_reducible exact ih0 _ _ _ _)
   | (with_reducible exact LeO.refl _)
   | (with_reducible exact LeO.none _)
   | (with_reducible refine LeO.ite ?_ ?_)
   | (with_reducible refine LeO.bind ?_ (fun _ => ?_))
   | exact ih0 _ _ _ _
   | exact LeO.none _
   | refine LeO.ite ?_ ?_
   | refine LeO.bind ?_ (fun _ => ?_)
theorem waypointref08_Sum.mono : ∀ a0 k, LeO (waypointref08_Sum.f k a0) (waypointref08_Sum.f (k + 1) a0) := by
 intro a0 k
 have ih0 := waypointref08_Sum.mono_l k
 unfold waypointref08_Sum.f
 repeat' first
   | (with_reducible exact ih0 _ _ _ _)
   | (with_reducible exact LeO.refl _)
   | (with_reducible exact LeO.none _)
   | (with_reducible refine LeO.ite ?_ ?_)
   | (with_reducible refine LeO.bind ?_ (fun _ => ?_))
   | exact ih0 _ _ _ _
   | exact LeO.none _
   | refine LeO.ite ?_ ?_
   | refine LeO.bind ?_ (fun _ => ?_)
set_option maxHeartbeats 8000000 in
set_option maxRecDepth 100000 in
theorem waypointref08_Sum.calls (k : Nat) (A0 : Option Addr) (c0 : Nat) (l0 : List Int) (r1 : Int) (r2 : Int) (w : World) (hr0 : Kd.C (Kd.int .u8) w A0 l0.length l0) (hc0 : l0.length ≤ c0) (h : waypointref08_Sum.f k l0 = some (r1, r2)) :
  Calls Try.prog 41 #[.slice A0 l0.length c0] w fun e w' => e = .returned (.tuple #[.int .i64 r1, .int .i64 r2]) ∧ Drawn0 w w' := by
 have HR0 := Aside0.mk hr0
 have HC0 := Aside0.mk hc0
 clear hr0 hc0
 have H : (waypointref08_Sum.l0 k l0 0 0 0) = some (r1, r2) := h
 clear h
 have H' := Aside0.mk H
 clear H
 go_enter Try.func41, Try.ntmps41
 go_wp2
 go_loopg [4, 5, 6] k (fun kq v4 v5 v6 w' => ∃ (x4_1 : Int) (x5_1 : Int) (x6_1 : Int), v4 = .int .i64 x4_1 ∧ v5 = .int .i64 x5_1 ∧ v6 = .int .i64 x6_1 ∧ Aside0 (waypointref08_Sum.l0 kq l0 x4_1 x5_1 x6_1 = some (r1, r2)) ∧ Aside0 (kq ≤ k) ∧ Drawn0 w w')
 case atStart => exact ⟨(0), (0), (0), (by first | rfl | (simp; done) | (simp [*]; done)), (by first | rfl | (simp; done) | (simp [*]; done)), (by first | rfl | (simp; done) | (simp [*]; done)), H', ⟨Nat.le_refl _⟩, by repeat (first | exact Drawn0.refl _ | apply Drawn0.step)⟩
 case round =>
  clear H'
  obtain ⟨x4_1, x5_1, x6_1, rfl, rfl, rfl, HA, HK1, ⟨m1, rfl⟩⟩ := hrel
  cases gk with
  | zero => exact absurd HA.out (by simp [waypointref08_Sum.l0])
  | succ k1 =>
   have H := HA.out
   clear HA
   simp only [waypointref08_Sum.l0] at H
   by_cases c2 : x6_1 < (l0.length : Int)
   ·rw [if_pos c2] at H
    have c2b0 : decide (x6_1 < (l0.length : Int)) = true := decide_eq_true c2
    clear c2
    by_cases c3 : 0 ≤ x6_1
    ·rw [if_pos c3] at H
     have c3b0 : decide (0 ≤ x6_1) = true := decide_eq_true c3
     clear c3
     have H' := Aside0.mk H
     clear H
     have p304 : 0 ≤ (x6_1 : Int) := of_decide_eq_true (by first | (with_reducible assumption) | assumption)
     have q304 : x6_1 < (l0.length : Int) := of_decide_eq_true (by first | (with_reducible assumption) | assumption)
     obtain ⟨ad304, e304, hx304_0⟩ := Kd.at_int HR0.out x6_1 p304 q304
     cases e304
     replace p304 := eq_true p304
     replace q304 := eq_true q304
     have p305 : 0 ≤ (x6_1 : Int) := of_decide_eq_true (by first | (with_reducible assumption) | assumption)
     have q305 : x6_1 < (l0.length : Int) := of_decide_eq_true (by first | (with_reducible assumption) | assumption)
     obtain ⟨ad305, e305, hx305_0⟩ := Kd.at_int HR0.out x6_1 p305 q305
     obtain rfl : ad304 = ad305 := (by injection e305)
     replace p305 := eq_true p305
     replace q305 := eq_true q305
     go_wp2
     go_roundg k1
     case measure => have := HK1.out; omega
     case rel => exact ⟨(Int.tmod (wrap64 (x4_1 + (wrap64 (rd l0 x6_1)))) 255), (Int.tmod (wrap64 (x5_1 + (wrap64 ((Int.tmod (wrap64 ((l0.length : Int) - x6_1)) 255) * (wrap64 (rd l0 x6_1)))))) 255), (wrap64 (x6_1 + 1)), (by first | rfl | (simp; done) | (simp [*]; done)), (by first | rfl | (simp; done) | (simp [*]; done)), (by first | rfl | (simp; done) | (simp [*]; done)), H', ⟨by have := HK1.out; omega⟩, by repeat (first | exact Drawn0.refl _ | apply Drawn0.step)⟩
    ·rw [if_neg c3] at H
     exact absurd H (by simp)
   ·rw [if_neg c2] at H
    have c2b0 : decide (x6_1 < (l0.length : Int)) = false := decide_eq_false c2
    clear c2
    simp only [Option.some.injEq, Prod.mk.injEq] at H
    obtain ⟨rfl, rfl⟩ := H
    go_wp2
    go_ret2
    exact ⟨by first | rfl | (simp; done) | (simp [*]; done), by repeat (first | exact Drawn0.refl _ | apply Drawn0.step)⟩

/-! ### waypointref08_Seal: function 36 -/
def waypointref08_Seal.l0 : Nat → Int → List Int → Int → Int → Int → Int → Option (List Int)
 | 0, _, _, _, _, _, _ => none
 | k + 1, x1, x5, x6, x7, x8, x9 => if x9 < 255 then (if (Int.tmod (wrap64 ((wrap64 (x7 + (wrap64 (x8 * x9)))) + (wrap64 ((wrap64 (x8 + 254)) * (Int.tmod (wrap64 ((wrap64 (510 - x6)) - x9)) 255))))) 255) = 0 then (if 0 ≤ x1 then (if x1 < (x5.length : Int) then (if 0 ≤ (wrap64 (x1 + 1)) then (if (wrap64 (x1 + 1)) < (x5.length : Int) then (some ((x5.set (x1 : Int).toNat ((x9) % 256)).set ((wrap64 (x1 + 1)) : Int).toNat ((Int.tmod (wrap64 ((wrap64 (510 - x6)) - x9)) 255) % 256))) else (none)) else (none)) else (none)) else (none)) else (waypointref08_Seal.l0 k x1 x5 x6 x7 x8 (wrap64 (x9 + 1)))) else (some ([] : List Int))
def waypointref08_Seal.f (k : Nat) (l0 : List Int) (a1 : Int) : Option (List Int) := (some (([] : List Int) : List Int)).bind fun y306 => (if y306.length + l0.length < 140737488355328 then ((some (y306 ++ l0 : List Int)).bind fun y309 => (if 0 ≤ a1 then (if a1 < (y309.length : Int) then (if 0 ≤ (wrap64 (a1 + 1)) then (if (wrap64 (a1 + 1)) < (y309.length : Int) then ((some ((y309.set (a1 : Int).toNat 0).set ((wrap64 (a1 + 1)) : Int).toNat 0 : List Int)).bind fun y313 => ((waypointref08_Sum.f k y313).bind fun bt314 => (waypointref08_Seal.l0 k a1 y313 bt314.1 bt314.2 (Int.tmod (wrap64 ((l0.length : Int) - a1)) 255) 0))) else (none)) else (none)) else (none)) else (none))) else (none))
theorem waypointref08_Seal.mono_l : ∀ k, (∀ y0 y1 y2 y3 y4 y5, LeO (waypointref08_Seal.l0 k y0 y1 y2 y3 y4 y5) (waypointref08_Seal.l0 (k + 1) y0 y1 y2 y3 y4 y5))
 | 0 => fun _ _ _ _ _ _ r h => by simp [waypointref08_Seal.l0] at h
 | k + 1 => by
  have ih0 := waypointref08_Seal.mono_l k
  ·intro y0 y1 y2 y3 y4 y5
   unfold waypointref08_Seal.l0
   repeat' first
   | (with_reducible exact ih0 _ _ _ _ _ _)
   | (with_reducible exact waypointref08_Sum.mono _ _)
   | (with_reducible exact LeO.refl _)
   | (with_reducible exact LeO.none _)
   | (with_reducible refine LeO.ite ?_ ?_)
   | (with_reducible refine LeO.bind ?_ (fun _ => ?_))
   | exact ih0 _ _ _ _ _ _
   | exact waypointref08_Sum.mono _ _
   | exact LeO.none _
   | refine LeO.ite ?_ ?_
   | refine LeO.bind ?_ (fun _ => ?_)
theorem waypointref08_Seal.mono : ∀ a0 a1 k, LeO (waypointref08_Seal.f k a0 a1) (waypointref08_Seal.f (k + 1) a0 a1) := by
 intro a0 a1 k
 have ih0 := waypointref08_Seal.mono_l k
 unfold waypointref08_Seal.f
 repeat' first
   | (with_reducible exact ih0 _ _ _ _ _ _)
   | (with_reducible exact waypointref08_Sum.mono _ _)
   | (with_reducible exact LeO.refl _)
   | (with_reducible exact LeO.none _)
   | (with_reducible refine LeO.ite ?_ ?_)
   | (with_reducible refine LeO.bind ?_ (fun _ => ?_))
   | exact ih0 _ _ _ _ _ _
   | exact waypointref08_Sum.mono _ _
   | exact LeO.none _
   | refine LeO.ite ?_ ?_
   | refine LeO.bind ?_ (fun _ => ?_)
set_option maxHeartbeats 8000000 in
set_option maxRecDepth 100000 in
theorem waypointref08_Seal.calls (k : Nat) (A0 : Option Addr) (c0 : Nat) (l0 : List Int) (a1 : Int) (r : List Int) (w : World) (hr0 : Kd.C (Kd.int .u8) w A0 l0.length l0) (hc0 : l0.length ≤ c0) (h : waypointref08_Seal.f k l0 a1 = some r) :
  Calls Try.prog 36 #[.slice A0 l0.length c0, .int .i64 a1] w fun e w' => ∃ v0_ : Value, e = .returned (v0_) ∧ Kd.R (Kd.int .u8) 5 w' w.heap.size (fun _ => True) v0_ r ∧ Below w.heap.size w w' := by
 have HR0 := Aside0.mk hr0
 have HC0 := Aside0.mk hc0
 clear hr0 hc0
 have HB := Aside0.mk (Below.refl w.heap.size w)
 have H : ((some (([] : List Int) : List Int)).bind fun y306 => (if y306.length + l0.length < 140737488355328 then ((some (y306 ++ l0 : List Int)).bind fun y309 => (if 0 ≤ a1 then (if a1 < (y309.length : Int) then (if 0 ≤ (wrap64 (a1 + 1)) then (if (wrap64 (a1 + 1)) < (y309.length : Int) then ((some ((y309.set (a1 : Int).toNat 0).set ((wrap64 (a1 + 1)) : Int).toNat 0 : List Int)).bind fun y313 => ((waypointref08_Sum.f k y313).bind fun bt314 => (waypointref08_Seal.l0 k a1 y313 bt314.1 bt314.2 (Int.tmod (wrap64 ((l0.length : Int) - a1)) 255) 0))) else (none)) else (none)) else (none)) else (none))) else (none))) = some r := h
 clear h
 obtain ⟨y306, hy306⟩ : ∃ y_ : List Int, y_ = (([] : List Int)) := ⟨_, rfl⟩
 replace H : (if y306.length + l0.length < 140737488355328 then ((some (y306 ++ l0 : List Int)).bind fun y309 => (if 0 ≤ a1 then (if a1 < (y309.length : Int) then (if 0 ≤ (wrap64 (a1 + 1)) then (if (wrap64 (a1 + 1)) < (y309.length : Int) then ((some ((y309.set (a1 : Int).toNat 0).set ((wrap64 (a1 + 1)) : Int).toNat 0 : List Int)).bind fun y313 => ((waypointref08_Sum.f k y313).bind fun bt314 => (waypointref08_Seal.l0 k a1 y313 bt314.1 bt314.2 (Int.tmod (wrap64 ((l0.length : Int) - a1)) 255) 0))) else (none)) else (none)) else (none)) else (none))) else (none)) = some r := by first | (rw [hy306]; with_reducible exact H) | (have H2_ := (Option.bind_some _ _).symm.trans H; rw [hy306]; with_reducible exact H2_) | (have H2_ := (Option.bind_some _ _).symm.trans H; with_reducible exact H2_) | with_reducible exact H | (rw [hy306]; exact H) | exact H
 have Ny306 := Aside0.mk hy306
 clear hy306
 by_cases c3 : y306.length + l0.length < 140737488355328
 ·rw [if_pos c3] at H
  have LMc3 := Aside0.mk c3
  clear c3
  obtain ⟨y309, hy309⟩ : ∃ y_ : List Int, y_ = (y306 ++ l0) := ⟨_, rfl⟩
  replace H : (if 0 ≤ a1 then (if a1 < (y309.length : Int) then (if 0 ≤ (wrap64 (a1 + 1)) then (if (wrap64 (a1 + 1)) < (y309.length : Int) then ((some ((y309.set (a1 : Int).toNat 0).set ((wrap64 (a1 + 1)) : Int).toNat 0 : List Int)).bind fun y313 => ((waypointref08_Sum.f k y313).bind fun bt314 => (waypointref08_Seal.l0 k a1 y313 bt314.1 bt314.2 (Int.tmod (wrap64 ((l0.length : Int) - a1)) 255) 0))) else (none)) else (none)) else (none)) else (none)) = some r := by first | (rw [hy309]; with_reducible exact H) | (have H2_ := (Option.bind_some _ _).symm.trans H; rw [hy309]; with_reducible exact H2_) | (have H2_ := (Option.bind_some _ _).symm.trans H; with_reducible exact H2_) | with_reducible exact H | (rw [hy309]; exact H) | exact H
  have Ny309 := Aside0.mk hy309
  clear hy309
  by_cases c4 : 0 ≤ a1
  ·rw [if_pos c4] at H
   have c4b0 : decide (0 ≤ a1) = true := decide_eq_true c4
   clear c4
   by_cases c5 : a1 < (y309.length : Int)
   ·rw [if_pos c5] at H
    have c5b0 : decide (a1 < (y309.length : Int)) = true := decide_eq_true c5
    clear c5
    obtain ⟨y312, hy312⟩ : ∃ y_ : List Int, y_ = (y309.set (a1 : Int).toNat 0) := ⟨_, rfl⟩
    replace H : (if 0 ≤ (wrap64 (a1 + 1)) then (if (wrap64 (a1 + 1)) < (y309.length : Int) then ((some (y312.set ((wrap64 (a1 + 1)) : Int).toNat 0 : List Int)).bind fun y313 => ((waypointref08_Sum.f k y313).bind fun bt314 => (waypointref08_Seal.l0 k a1 y313 bt314.1 bt314.2 (Int.tmod (wrap64 ((l0.length : Int) - a1)) 255) 0))) else (none)) else (none)) = some r := by first | (rw [hy312]; with_reducible exact H) | (have H2_ := (Option.bind_some _ _).symm.trans H; rw [hy312]; with_reducible exact H2_) | (have H2_ := (Option.bind_some _ _).symm.trans H; with_reducible exact H2_) | with_reducible exact H | (rw [hy312]; exact H) | exact H
    have Ny312 := Aside0.mk hy312
    clear hy312
    obtain ⟨ji7, hji7⟩ : ∃ j_ : Int, (wrap64 (a1 + 1)) = j_ := ⟨_, rfl⟩
    replace H : (if 0 ≤ (ji7) then (if (ji7) < (y309.length : Int) then ((some (y312.set ((ji7) : Int).toNat 0 : List Int)).bind fun y313 => ((waypointref08_Sum.f k y313).bind fun bt314 => (waypointref08_Seal.l0 k a1 y313 bt314.1 bt314.2 (Int.tmod (wrap64 ((l0.length : Int) - a1)) 255) 0))) else (none)) else (none)) = some r := by first | (rw [hji7] at H; exact H) | (simp only [hji7] at H ⊢; exact H)
    have hji7w : (IntKind.i64.wrap (a1 + 1)) = ji7 := (i64_w _).trans hji7
    by_cases c8 : 0 ≤ (ji7)
    ·rw [if_pos c8] at H
     have c8b0 : decide (0 ≤ (ji7)) = true := decide_eq_true c8
     clear c8
     by_cases c9 : (ji7) < (y309.length : Int)
     ·rw [if_pos c9] at H
      have c9b0 : decide ((ji7) < (y309.length : Int)) = true := decide_eq_true c9
      clear c9
      obtain ⟨y313, hy313⟩ : ∃ y_ : List Int, y_ = (y312.set ((ji7) : Int).toNat 0) := ⟨_, rfl⟩
      replace H : ((waypointref08_Sum.f k y313).bind fun bt314 => (waypointref08_Seal.l0 k a1 y313 bt314.1 bt314.2 (Int.tmod (wrap64 ((l0.length : Int) - a1)) 255) 0)) = some r := by first | (rw [hy313]; with_reducible exact H) | (have H2_ := (Option.bind_some _ _).symm.trans H; rw [hy313]; with_reducible exact H2_) | (have H2_ := (Option.bind_some _ _).symm.trans H; with_reducible exact H2_) | with_reducible exact H | (rw [hy313]; exact H) | exact H
      have Ny313 := Aside0.mk hy313
      clear hy313
      replace H := Option.bind_eq_some_iff.mp H
      obtain ⟨⟨t314, t315⟩, A110, H⟩ := H
      replace H : (waypointref08_Seal.l0 k a1 y313 t314 t315 (Int.tmod (wrap64 ((l0.length : Int) - a1)) 255) 0) = some r := H
      have A11 := Aside0.mk A110
      clear A110
      have H' := Aside0.mk H
      clear H
      go_enter Try.func36, Try.ntmps36
      go_wp2_with (first | ((with_reducible refine gate_dst (N := 11) rfl ?_); refine Kd.R_lit (Kd.int .u8) _ 5 ?hg (N := 11) ?hd (xs := ([] : List Int)) (inner := []) (ok := fun _ => True) (okp := fun _ => True) ?hr ?hp (fun _ hk => hk) trivial (Below.refl _ _) (Nat.le_refl _) (by simp) ?_; (case hd => rfl); (case hg => rfl); (case hr => first | (go_simp; done) | (go_simp; rfl)); (case hp => exact (Reps.none _ _)); intro v307 w12 ho13 hb hg_ hnew_; clear hg_ hnew_; (first | rw [← Ny306.out] at ho13 | (simp only [Int.reduceToNat] at ho13; rw [← Ny306.out] at ho13)); have HO308 := Aside0.mk (Kd.R_lower ho13 (below_size (kw_ HB))); replace HB := bs_ HB hb; clear hb ho13) | ((with_reducible refine gate_builtin (b := .append) (xs := #[.tmp 11, .tmp 12]) rfl ?_); at_builtin; refine Kd.R_append_rows (Kd.int .u8) (w0 := w) w.heap.size rfl (.tmp 11) (.tmp 12) 28 5 (.int .u8 0) 1 rfl Try.underlying28 info5 rfl (by decide) (by omega) v307 y306 l0 _ _ _ (fun _ => True) (fun _ => False) rfl rfl ?aO ?aR (fun _ _ h => h) (fun _ h => h.elim) ?aF ?aB ?aS ?aL ?_; (case aR => repeat (first | exact (Kd.C_below HR0.out HB.out) | (with_reducible refine Kd.C_alloc ?_ _) | (with_reducible refine Kd.C_drewN ?_ _) | (with_reducible refine Kd.C_drew ?_))); (case aB => exact (kw_ HB)); (case aF => exact (fun _ _ => trivial)); (case aO => exact (by (with_reducible repeat (first | apply Kd.R_alloc | apply Kd.R_drewN | apply Kd.R_drew)); exact HO308.out)); (case aS => exact (below_size (kw_ HB))); (case aL => have := LMc3.out; omega); intro v310 w14 ho hb hg hat; rw [← Ny309.out] at ho; have HO311 := Aside0.mk (ho); replace HB := Aside0.mk (hb); clear HO308; clear ho hb hg hat; have p6 : 0 ≤ (a1 : Int) := of_decide_eq_true (by first | (with_reducible assumption) | assumption); have q6 : (a1 : Int) < ((y309.length : Int) : Int) := of_decide_eq_true (by first | (with_reducible assumption) | assumption); obtain ⟨go6, co6, eo6, gb6, gl6, cl6, HG6⟩ := Kd.R_form HO311.out (by omega); (first | cases eo6 | (injection eo6 with ea_ en_ ec_; (first | subst ea_ | (injection ea_ with ea_; subst ea_)); subst ec_; clear en_)); have GB6 := Aside0.mk gb6; have GG6 := Aside0.mk HG6; clear gb6 gl6 HG6; obtain ⟨hx6_0, hf6_0⟩ := Kd.R_celln 0 HO311.out (a1 : Int) p6 q6; replace p6 := eq_true p6; replace q6 := eq_true q6; obtain ⟨hy15_, hz15_⟩ := Kd.R_celln 0 HO311.out (a1 : Int) (of_decide_eq_true (by first | (with_reducible assumption) | assumption)) (of_decide_eq_true (by first | (with_reducible assumption) | assumption)); have HP15 := Kd.R_putg HO311.out (a1 : Int) 0) | ((with_reducible refine gate_store (t := 5) (p := 19) rfl ?_); refine store_event (t := 5) (p := 19) (v := ?vo_w16) (w1 := (w14.setCell ⟨go6, (a1 : Int).toNat, none⟩ (.int .u8 0))) ?hg ?ho ?hn ?hr ?_; (case ho => rfl); (case hg => rfl); (case hn => rfl); (case hr => first | (go_simp; done) | (go_simp; rfl)); intro w16 hw; have hg : w14.grownBy w16 (some go6) := (by rw [hw]; exact HP15.2); have hp_ : Kd.R (Kd.int .u8) 5 w16 w.heap.size (fun _ => True) (.slice (some ⟨go6, 0, none⟩) y309.length co6) y312 := (by rw [hw, Ny312.out]; exact HP15.1); clear HP15; replace HO311 := Aside0.mk (hp_); replace HB := Aside0.mk ((by rw [hw]; exact below_set (HB.out) GB6.out : Below w.heap.size w w16)); clear hg hw hp_; have p10 : 0 ≤ ((ji7) : Int) := of_decide_eq_true (by first | (with_reducible assumption) | assumption); have q10 : ((ji7) : Int) < ((y309.length : Int) : Int) := of_decide_eq_true (by first | (with_reducible assumption) | assumption); obtain ⟨hx10_0, hf10_0⟩ := Kd.R_celln 0 HO311.out ((ji7) : Int) p10 q10; replace p10 := eq_true p10; replace q10 := eq_true q10; obtain ⟨hy17_, hz17_⟩ := Kd.R_celln 0 HO311.out ((ji7) : Int) (of_decide_eq_true (by first | (with_reducible assumption) | assumption)) (of_decide_eq_true (by first | (with_reducible assumption) | assumption)); have HP17 := Kd.R_putg HO311.out ((ji7) : Int) 0) | ((with_reducible refine gate_store (t := 5) (p := 20) rfl ?_); refine store_event (t := 5) (p := 20) (v := ?vo_w18) (w1 := (w16.setCell ⟨go6, ((ji7) : Int).toNat, none⟩ (.int .u8 0))) ?hg ?ho ?hn ?hr ?_; (case ho => rfl); (case hg => rfl); (case hn => rfl); (case hr => first | (go_simp; done) | (go_simp; rfl)); intro w18 hw; have hg : w16.grownBy w18 (some go6) := (by rw [hw]; exact HP17.2); have hp_ : Kd.R (Kd.int .u8) 5 w18 w.heap.size (fun _ => True) (.slice (some ⟨go6, 0, none⟩) y309.length co6) y313 := (by rw [hw, Ny313.out]; exact HP17.1); clear HP17; replace HO311 := Aside0.mk (hp_); replace HB := Aside0.mk ((by rw [hw]; exact below_set (HB.out) GB6.out : Below w.heap.size w w18)); clear hg hw hp_) | ((with_reducible refine gate_callee (f := 41) rfl ?_); refine goesL_ (some 23) rfl rfl Try.func41 (by kernel_rfl) rfl #[.slice (some ⟨go6, 0, none⟩) y313.length co6] rfl (by (try simp only [List.map_toArray, List.map_cons, List.map_nil]); first | done | (rw [show y313.length = y309.length from (Kd.R_reads' HO311.out).1.symm] <;> rfl) | rfl | (simp only [List.length_drop, List.length_take]; rfl)) ?_; (with_reducible refine (waypointref08_Sum.calls k _ _ y313 t314 t315 _ ?side1 ?side2 A11.out).mono ?_); (case side1 => repeat (first | exact (Kd.R_reads' HO311.out).2.2 | (with_reducible refine Kd.C_alloc ?_ _) | (with_reducible refine Kd.C_drewN ?_ _) | (with_reducible refine Kd.C_drew ?_))); (case side2 => rw [show y313.length = y309.length from (Kd.R_reads' HO311.out).1.symm]; exact (Kd.R_reads' HO311.out).2.1); rintro e w' ⟨rfl, ⟨nd, rfl⟩⟩; refine ⟨_, rfl, ?_⟩))
      go_loopg [9] k (fun kq v9 w' => ∃ (x5_1 : List Int) (x9_1 : Int), v9 = .int .i64 x9_1 ∧ Aside0 (waypointref08_Seal.l0 kq a1 x5_1 t314 t315 (Int.tmod (wrap64 ((l0.length : Int) - a1)) 255) x9_1 = some r) ∧ Aside0 (kq ≤ k) ∧ Aside0 (Kd.R (Kd.int .u8) 5 w' w.heap.size (fun _ => True) (.slice (some ⟨go6, 0, none⟩) y309.length co6) x5_1) ∧ Aside0 (Below w.heap.size w w'))
      case atStart => exact ⟨(y313), (0), (by first | rfl | (simp; done) | (simp [*]; done)), H', ⟨Nat.le_refl _⟩, ⟨by (with_reducible repeat (first | apply Kd.R_alloc | apply Kd.R_drewN | apply Kd.R_drew)); exact HO311.out⟩, ⟨kw_ HB⟩⟩
      case round =>
       clear H'
       (try clear c3); (try clear c4); (try clear c4b0); (try clear c5); (try clear c5b0); (try clear p6); (try clear q6); (try clear c8); (try clear c8b0); (try clear c9); (try clear c9b0); (try clear p10); (try clear q10); (try clear hx10_0); (try clear hx6_0); (try clear p10); (try clear p6); (try clear q10); (try clear q6)
       obtain ⟨x5_1, x9_1, rfl, HA, HK1, HO_5, HB⟩ := hrel
       have hl5_1 := (Kd.R_reads' HO_5.out).1
       rw [hl5_1] at HO_5
       (try simp only [hl5_1])
       cases gk with
       | zero => exact absurd HA.out (by simp [waypointref08_Seal.l0])
       | succ k1 =>
        have H := HA.out
        clear HA
        simp only [waypointref08_Seal.l0] at H
        by_cases c19 : x9_1 < 255
        ·rw [if_pos c19] at H
         have c19b0 : decide (x9_1 < 255) = true := decide_eq_true c19
         clear c19
         by_cases c20 : (Int.tmod (wrap64 ((wrap64 (t315 + (wrap64 ((Int.tmod (wrap64 ((l0.length : Int) - a1)) 255) * x9_1)))) + (wrap64 ((wrap64 ((Int.tmod (wrap64 ((l0.length : Int) - a1)) 255) + 254)) * (Int.tmod (wrap64 ((wrap64 (510 - t314)) - x9_1)) 255))))) 255) = 0
         ·rw [if_pos c20] at H
          have c20b0 : ((Int.tmod (wrap64 ((wrap64 (t315 + (wrap64 ((Int.tmod (wrap64 ((l0.length : Int) - a1)) 255) * x9_1)))) + (wrap64 ((wrap64 ((Int.tmod (wrap64 ((l0.length : Int) - a1)) 255) + 254)) * (Int.tmod (wrap64 ((wrap64 (510 - t314)) - x9_1)) 255))))) 255) == 0) = true := beq_iff_eq.mpr c20
          have c20b1 : ((Int.tmod (wrap64 ((wrap64 (t315 + (wrap64 ((Int.tmod (wrap64 ((l0.length : Int) - a1)) 255) * x9_1)))) + (wrap64 ((wrap64 ((Int.tmod (wrap64 ((l0.length : Int) - a1)) 255) + 254)) * (Int.tmod (wrap64 ((wrap64 (510 - t314)) - x9_1)) 255))))) 255) != 0) = false := bne_eq_false_iff_eq.mpr c20
          clear c20
          by_cases c21 : 0 ≤ a1
          ·rw [if_pos c21] at H
           have c21b0 : decide (0 ≤ a1) = true := decide_eq_true c21
           clear c21
           by_cases c22 : a1 < (x5_1.length : Int)
           ·rw [if_pos c22] at H
            have c22b0 : decide (a1 < (x5_1.length : Int)) = true := decide_eq_true c22
            clear c22
            obtain ⟨y316, hy316⟩ : ∃ y_ : List Int, y_ = (x5_1.set (a1 : Int).toNat ((x9_1) % 256)) := ⟨_, rfl⟩
            replace H : (if 0 ≤ (wrap64 (a1 + 1)) then (if (wrap64 (a1 + 1)) < (x5_1.length : Int) then (some (y316.set ((wrap64 (a1 + 1)) : Int).toNat ((Int.tmod (wrap64 ((wrap64 (510 - t314)) - x9_1)) 255) % 256))) else (none)) else (none)) = some r := by first | (rw [hy316]; with_reducible exact H) | (have H2_ := (Option.bind_some _ _).symm.trans H; rw [hy316]; with_reducible exact H2_) | (have H2_ := (Option.bind_some _ _).symm.trans H; with_reducible exact H2_) | with_reducible exact H | (rw [hy316]; exact H) | exact H
            have Ny316 := Aside0.mk hy316
            clear hy316
            obtain ⟨ji24, hji24⟩ : ∃ j_ : Int, (wrap64 (a1 + 1)) = j_ := ⟨_, rfl⟩
            replace H : (if 0 ≤ (ji24) then (if (ji24) < (x5_1.length : Int) then (some (y316.set ((ji24) : Int).toNat ((Int.tmod (wrap64 ((wrap64 (510 - t314)) - x9_1)) 255) % 256))) else (none)) else (none)) = some r := by first | (rw [hji24] at H; exact H) | (simp only [hji24] at H ⊢; exact H)
            have hji24w : (IntKind.i64.wrap (a1 + 1)) = ji24 := (i64_w _).trans hji24
            obtain rfl : ji24 = ji7 := hji24.symm.trans hji7
            by_cases c25 : 0 ≤ (ji24)
            ·rw [if_pos c25] at H
             have c25b0 : decide (0 ≤ (ji24)) = true := decide_eq_true c25
             clear c25
             by_cases c26 : (ji24) < (x5_1.length : Int)
             ·rw [if_pos c26] at H
              have c26b0 : decide ((ji24) < (x5_1.length : Int)) = true := decide_eq_true c26
              clear c26
              obtain ⟨y317, hy317⟩ : ∃ y_ : List Int, y_ = (y316.set ((ji24) : Int).toNat ((Int.tmod (wrap64 ((wrap64 (510 - t314)) - x9_1)) 255) % 256)) := ⟨_, rfl⟩
              replace H : (some y317) = some r := by first | (rw [hy317]; with_reducible exact H) | (have H2_ := (Option.bind_some _ _).symm.trans H; rw [hy317]; with_reducible exact H2_) | (have H2_ := (Option.bind_some _ _).symm.trans H; with_reducible exact H2_) | with_reducible exact H | (rw [hy317]; exact H) | exact H
              have Ny317 := Aside0.mk hy317
              clear hy317
              obtain rfl := Option.some.inj H
              have p23 : 0 ≤ (a1 : Int) := of_decide_eq_true (by first | (with_reducible assumption) | assumption)
              have q23 : (a1 : Int) < ((x5_1.length : Int) : Int) := of_decide_eq_true (by first | (with_reducible assumption) | assumption)
              obtain ⟨hx23_0, hf23_0⟩ := Kd.R_celln 0 HO_5.out (a1 : Int) p23 q23
              replace p23 := eq_true p23
              replace q23 := eq_true q23
              have HP28 := Kd.R_putg HO_5.out (a1 : Int) ((x9_1) % 256)
              go_wp2_with (first | ((with_reducible refine gate_store (t := 5) (p := 61) rfl ?_); refine store_event (t := 5) (p := 61) (v := ?vo_w29) (w1 := (wr.setCell ⟨go6, (a1 : Int).toNat, none⟩ (.int .u8 ((x9_1) % 256)))) ?hg ?ho ?hn ?hr ?_; (case ho => rfl); (case hg => rfl); (case hn => rfl); (case hr => first | (go_simp; done) | (go_simp; rfl)); intro w29 hw; have hg : wr.grownBy w29 (some go6) := (by rw [hw]; exact HP28.2); have hp_ : Kd.R (Kd.int .u8) 5 w29 w.heap.size (fun _ => True) (.slice (some ⟨go6, 0, none⟩) x5_1.length co6) y316 := (by rw [hw, Ny316.out]; exact HP28.1); clear HP28; replace HO_5 := Aside0.mk (hp_); replace HB := Aside0.mk ((by rw [hw]; exact below_set (HB.out) GB6.out : Below w.heap.size w w29)); clear hg hw hp_; have p27 : 0 ≤ ((ji24) : Int) := of_decide_eq_true (by first | (with_reducible assumption) | assumption); have q27 : ((ji24) : Int) < ((x5_1.length : Int) : Int) := of_decide_eq_true (by first | (with_reducible assumption) | assumption); obtain ⟨hx27_0, hf27_0⟩ := Kd.R_celln 0 HO_5.out ((ji24) : Int) p27 q27; replace p27 := eq_true p27; replace q27 := eq_true q27; obtain ⟨hy30_, hz30_⟩ := Kd.R_celln 0 HO_5.out ((ji24) : Int) (of_decide_eq_true (by first | (with_reducible assumption) | assumption)) (of_decide_eq_true (by first | (with_reducible assumption) | assumption)); have HP30 := Kd.R_putg HO_5.out ((ji24) : Int) ((Int.tmod (wrap64 ((wrap64 (510 - t314)) - x9_1)) 255) % 256)) | ((with_reducible refine gate_store (t := 5) (p := 62) rfl ?_); refine store_event (t := 5) (p := 62) (v := ?vo_w31) (w1 := (w29.setCell ⟨go6, ((ji24) : Int).toNat, none⟩ (.int .u8 ((Int.tmod (wrap64 ((wrap64 (510 - t314)) - x9_1)) 255) % 256)))) ?hg ?ho ?hn ?hr ?_; (case ho => rfl); (case hg => rfl); (case hn => rfl); (case hr => first | (go_simp; done) | (go_simp; rfl)); intro w31 hw; have hg : w29.grownBy w31 (some go6) := (by rw [hw]; exact HP30.2); have hp_ : Kd.R (Kd.int .u8) 5 w31 w.heap.size (fun _ => True) (.slice (some ⟨go6, 0, none⟩) x5_1.length co6) y317 := (by rw [hw, Ny317.out]; exact HP30.1); clear HP30; replace HO_5 := Aside0.mk (hp_); replace HB := Aside0.mk ((by rw [hw]; exact below_set (HB.out) GB6.out : Below w.heap.size w w31)); clear hg hw hp_))
              go_ret
              exact ⟨_, by first | rfl | (simp [errW_none, errW_some] <;> rfl) | (simp only [← hji7, ← hji24]; first | rfl | (simp [errW_none, errW_some] <;> rfl)) | (simp [*, errW_none, errW_some] <;> rfl), by (with_reducible repeat (first | apply Kd.R_alloc | apply Kd.R_drewN | apply Kd.R_drew)); exact HO_5.out, kw_ HB⟩
             ·rw [if_neg c26] at H
              exact absurd H (by simp)
            ·rw [if_neg c25] at H
             exact absurd H (by simp)
           ·rw [if_neg c22] at H
            exact absurd H (by simp)
          ·rw [if_neg c21] at H
           exact absurd H (by simp)
         ·rw [if_neg c20] at H
          have c20b0 : ((Int.tmod (wrap64 ((wrap64 (t315 + (wrap64 ((Int.tmod (wrap64 ((l0.length : Int) - a1)) 255) * x9_1)))) + (wrap64 ((wrap64 ((Int.tmod (wrap64 ((l0.length : Int) - a1)) 255) + 254)) * (Int.tmod (wrap64 ((wrap64 (510 - t314)) - x9_1)) 255))))) 255) == 0) = false := beq_eq_false_iff_ne.mpr c20
          have c20b1 : ((Int.tmod (wrap64 ((wrap64 (t315 + (wrap64 ((Int.tmod (wrap64 ((l0.length : Int) - a1)) 255) * x9_1)))) + (wrap64 ((wrap64 ((Int.tmod (wrap64 ((l0.length : Int) - a1)) 255) + 254)) * (Int.tmod (wrap64 ((wrap64 (510 - t314)) - x9_1)) 255))))) 255) != 0) = true := bne_iff_ne.mpr c20
          have H' := Aside0.mk H
          clear H
          go_wp2
          (try simp only [← hl5_1])
          go_roundg k1
          case measure => have := HK1.out; omega
          case rel => exact ⟨(x5_1), (wrap64 (x9_1 + 1)), (by first | rfl | (simp; done) | (simp [*]; done)), H', ⟨by have := HK1.out; omega⟩, ⟨by (try simp only [hl5_1]); (with_reducible repeat (first | apply Kd.R_alloc | apply Kd.R_drewN | apply Kd.R_drew)); exact HO_5.out⟩, ⟨kw_ HB⟩⟩
        ·rw [if_neg c19] at H
         have c19b0 : decide (x9_1 < 255) = false := decide_eq_false c19
         clear c19
         obtain rfl := Option.some.inj H
         go_wp2
         go_ret
         exact ⟨_, by first | rfl | (simp [errW_none, errW_some] <;> rfl) | (simp only [← hji7]; first | rfl | (simp [errW_none, errW_some] <;> rfl)) | (simp [*, errW_none, errW_some] <;> rfl), by first | exact Kd.R_nil _ _ _ _ _ | exact Kd.N_nil _ _ _ _ _ | exact Kd.V_nil _ _ _ _ _ | exact Kd.Q_nil _ _ _ _ _ | exact Kd.S_nil _ _ _ _ _, kw_ HB⟩
     ·rw [if_neg c9] at H
      exact absurd H (by simp)
    ·rw [if_neg c8] at H
     exact absurd H (by simp)
   ·rw [if_neg c5] at H
    exact absurd H (by simp)
  ·rw [if_neg c4] at H
   exact absurd H (by simp)
 ·rw [if_neg c3] at H
  exact absurd H (by simp)

end Go.Proofs.Ytmknjjfdlkgidaa.HLsc
