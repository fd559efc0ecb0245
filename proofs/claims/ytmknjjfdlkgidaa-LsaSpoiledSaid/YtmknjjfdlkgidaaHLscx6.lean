-- LAID by wip/hand.py, a program of this repository, over the kit's print: contracts of our own are put in. Lean checks it.
import Derived.Test.YtmknjjfdlkgidaaHLscx0
import Derived.Test.YtmknjjfdlkgidaaHLscx4
import Derived.Test.YtmknjjfdlkgidaaHLscx5
namespace Go.Proofs.Ytmknjjfdlkgidaa.HLsc
open Go.RowKit Go.Proofs.YtmknjjfdlkgidaaW.PrintWords Go.Proofs.YtmknjjfdlkgidaaW.PrintLast Go.Proofs.YtmknjjfdlkgidaaW.PrintMore
attribute [local go_sem] gtr_str leq_str max2_int min2_int max_two min_two max_three min_three max_four min_four   -- for this text's walks alone
set_option linter.unusedVariables false
set_option linter.unusedSimpArgs false

/-! ### fletcher_Seal: function 28 -/
def fletcher_Seal.j0 : Nat → List Int → Int → Bool → Option (List Int × Int)
 | 0, _, _, _ => none
 | k + 1, x0, x1, x20 => if x20 = true then (some (([] : List Int), 2)) else ((slices_Clone_byte_byte.f x0).bind fun t150 => (if 0 ≤ x1 then (if x1 < (t150.length : Int) then (if 0 ≤ (wrap64 (x1 + 1)) then (if (wrap64 (x1 + 1)) < (t150.length : Int) then ((some ((t150.set (x1 : Int).toNat 0).set ((wrap64 (x1 + 1)) : Int).toNat 0 : List Int)).bind fun y154 => ((fletcher_Sum.f k y154).bind fun bt155 => ((fletcher_reduce.f (wrap64 ((wrap64 ((x0.length : Int) - x1)) - 1))).bind fun t157 => ((fletcher_reduce.f (wrap64 ((wrap64 (t157 * bt155.1)) - bt155.2))).bind fun t158 => ((fletcher_reduce.f (wrap64 ((wrap64 (-bt155.1)) - t158))).bind fun t159 => (some (((y154.set (x1 : Int).toNat ((t158) % 256)).set ((wrap64 (x1 + 1)) : Int).toNat ((t159) % 256)), 0))))))) else (none)) else (none)) else (none)) else (none)))
def fletcher_Seal.f (k : Nat) (l0 : List Int) (a1 : Int) : Option (List Int × Int) := if a1 < 0 then (fletcher_Seal.j0 k l0 a1 true) else (fletcher_Seal.j0 k l0 a1 (decide (a1 ≥ (wrap64 ((l0.length : Int) - 1)))))
theorem fletcher_Seal.mono_l : ∀ k, (∀ y0 y1 y2, LeO (fletcher_Seal.j0 k y0 y1 y2) (fletcher_Seal.j0 (k + 1) y0 y1 y2))
 | 0 => fun _ _ _ r h => by simp [fletcher_Seal.j0] at h
 | k + 1 => by
  have ih0 := fletcher_Seal.mono_l k
  ·intro y0 y1 y2
   unfold fletcher_Seal.j0
   repeat' first
   | (with_reducible exact ih0 _ _ _)
   | (with_reducible exact fletcher_Sum.mono _ _)
   | (with_reducible exact LeO.refl _)
   | (with_reducible exact LeO.none _)
   | (with_reducible refine LeO.ite ?_ ?_)
   | (with_reducible refine LeO.bind ?_ (fun _ => ?_))
   | exact ih0 _ _ _
   | exact fletcher_Sum.mono _ _
   | exact LeO.none _
   | refine LeO.ite ?_ ?_
   | refine LeO.bind ?_ (fun _ => ?_)
theorem fletcher_Seal.mono : ∀ a0 a1 k, LeO (fletcher_Seal.f k a0 a1) (fletcher_Seal.f (k + 1) a0 a1) := by
 intro a0 a1 k
 have ih0 := fletcher_Seal.mono_l k
 unfold fletcher_Seal.f
 repeat' first
   | (with_reducible exact ih0 _ _ _)
   | (with_reducible exact fletcher_Sum.mono _ _)
   | (with_reducible exact LeO.refl _)
   | (with_reducible exact LeO.none _)
   | (with_reducible refine LeO.ite ?_ ?_)
   | (with_reducible refine LeO.bind ?_ (fun _ => ?_))
   | exact ih0 _ _ _
   | exact fletcher_Sum.mono _ _
   | exact LeO.none _
   | refine LeO.ite ?_ ?_
   | refine LeO.bind ?_ (fun _ => ?_)
set_option maxHeartbeats 8000000 in
set_option maxRecDepth 100000 in
theorem fletcher_Seal.calls (k : Nat) (A0 : Option Addr) (c0 : Nat) (l0 : List Int) (a1 : Int) (r1 : List Int) (r2 : Int) (w : World) (hr0 : Kd.C (Kd.int .u8) w A0 l0.length l0) (hc0 : l0.length ≤ c0) (h : fletcher_Seal.f k l0 a1 = some (r1, r2)) :
  Calls Try.prog 28 #[.slice A0 l0.length c0, .int .i64 a1] w fun e w' => ∃ v0_ : Value, e = .returned (.tuple #[v0_, .int .i64 r2]) ∧ Kd.R (Kd.int .u8) 5 w' w.heap.size (fun _ => True) v0_ r1 ∧ Below w.heap.size w w' := by
 have HR0 := Aside0.mk hr0
 have HC0 := Aside0.mk hc0
 clear hr0 hc0
 have HB := Aside0.mk (Below.refl w.heap.size w)
 have H : (if a1 < 0 then (fletcher_Seal.j0 k l0 a1 true) else (fletcher_Seal.j0 k l0 a1 (decide (a1 ≥ (wrap64 ((l0.length : Int) - 1)))))) = some (r1, r2) := h
 clear h
 have HC3 := Aside0.mk H
 clear H
 go_enter Try.func28, Try.ntmps28
 go_upto_region 1 with (fail)
 go_cut [20] (fun v20 wc => ∃ (kq : Nat) (x20_2 : Bool), v20 = .bool x20_2 ∧ Aside0 (fletcher_Seal.j0 kq l0 a1 x20_2 = some (r1, r2)) ∧ Aside0 (kq ≤ k) ∧ Aside0 (Below w.heap.size w wc))
 case first =>
  have H := HC3.out
  clear HC3
  by_cases c4 : a1 < 0
  ·rw [if_pos c4] at H
   have c4b0 : decide (a1 < 0) = true := decide_eq_true c4
   clear c4
   (first | rw [c4b0] | (simp only [i64_w, i32_w]; rw [c4b0]) | skip)
   have H' := Aside0.mk H
   clear H
   go_wp2
   go_meet
   case rel => exact ⟨_, (true), (by first | rfl | (simp; done) | (simp [*]; done)), H', ⟨by first | omega | exact Nat.le_refl _⟩, ⟨kw_ HB⟩⟩
  ·rw [if_neg c4] at H
   have c4b0 : decide (a1 < 0) = false := decide_eq_false c4
   clear c4
   (first | rw [c4b0] | (simp only [i64_w, i32_w]; rw [c4b0]) | skip)
   have H' := Aside0.mk H
   clear H
   go_wp2
   go_meet
   case rel => exact ⟨_, (decide (a1 ≥ (wrap64 ((l0.length : Int) - 1)))), (by first | rfl | (simp; done) | (simp [*]; done)), H', ⟨by first | omega | exact Nat.le_refl _⟩, ⟨kw_ HB⟩⟩
 case rest =>
  clear HC3
  obtain ⟨kq, x20_2, rfl, HA, HJ2, HB⟩ := hcut
  cases kq with
  | zero => exact absurd HA.out (by simp [fletcher_Seal.j0])
  | succ kj2 =>
   have H := HA.out
   clear HA
   simp only [fletcher_Seal.j0] at H
   by_cases c5 : x20_2 = true
   ·subst c5
    have H1 : (some (([] : List Int), 2)) = some (r1, r2) := by rw [if_pos rfl] at H; exact H
    clear H
    have H := H1
    clear H1
    simp only [Option.some.injEq, Prod.mk.injEq] at H
    obtain ⟨rfl, rfl⟩ := H
    go_wp2
    go_ret2
    exact ⟨_, by first | rfl | (simp [errW_none, errW_some] <;> rfl) | (simp [*, errW_none, errW_some] <;> rfl), by first | exact Kd.R_nil _ _ _ _ _ | exact Kd.N_nil _ _ _ _ _ | exact Kd.V_nil _ _ _ _ _ | exact Kd.Q_nil _ _ _ _ _ | exact Kd.S_nil _ _ _ _ _, kw_ HB⟩
   ·replace c5 := Bool.eq_false_iff.mpr c5
    subst c5
    have H1 : ((slices_Clone_byte_byte.f l0).bind fun t150 => (if 0 ≤ a1 then (if a1 < (t150.length : Int) then (if 0 ≤ (wrap64 (a1 + 1)) then (if (wrap64 (a1 + 1)) < (t150.length : Int) then ((some ((t150.set (a1 : Int).toNat 0).set ((wrap64 (a1 + 1)) : Int).toNat 0 : List Int)).bind fun y154 => ((fletcher_Sum.f kj2 y154).bind fun bt155 => ((fletcher_reduce.f (wrap64 ((wrap64 ((l0.length : Int) - a1)) - 1))).bind fun t157 => ((fletcher_reduce.f (wrap64 ((wrap64 (t157 * bt155.1)) - bt155.2))).bind fun t158 => ((fletcher_reduce.f (wrap64 ((wrap64 (-bt155.1)) - t158))).bind fun t159 => (some (((y154.set (a1 : Int).toNat ((t158) % 256)).set ((wrap64 (a1 + 1)) : Int).toNat ((t159) % 256)), 0))))))) else (none)) else (none)) else (none)) else (none))) = some (r1, r2) := by rw [if_neg (show ¬ (false = true) by decide)] at H; exact H
    clear H
    have H := H1
    clear H1
    replace H := Option.bind_eq_some_iff.mp H
    obtain ⟨t150, A60, H⟩ := H
    replace H : (if 0 ≤ a1 then (if a1 < (t150.length : Int) then (if 0 ≤ (wrap64 (a1 + 1)) then (if (wrap64 (a1 + 1)) < (t150.length : Int) then ((some ((t150.set (a1 : Int).toNat 0).set ((wrap64 (a1 + 1)) : Int).toNat 0 : List Int)).bind fun y154 => ((fletcher_Sum.f kj2 y154).bind fun bt155 => ((fletcher_reduce.f (wrap64 ((wrap64 ((l0.length : Int) - a1)) - 1))).bind fun t157 => ((fletcher_reduce.f (wrap64 ((wrap64 (t157 * bt155.1)) - bt155.2))).bind fun t158 => ((fletcher_reduce.f (wrap64 ((wrap64 (-bt155.1)) - t158))).bind fun t159 => (some (((y154.set (a1 : Int).toNat ((t158) % 256)).set ((wrap64 (a1 + 1)) : Int).toNat ((t159) % 256)), 0))))))) else (none)) else (none)) else (none)) else (none)) = some (r1, r2) := H
    have A6 := Aside0.mk A60
    clear A60
    by_cases c7 : 0 ≤ a1
    ·rw [if_pos c7] at H
     have c7b0 : decide (0 ≤ a1) = true := decide_eq_true c7
     clear c7
     by_cases c8 : a1 < (t150.length : Int)
     ·rw [if_pos c8] at H
      have c8b0 : decide (a1 < (t150.length : Int)) = true := decide_eq_true c8
      clear c8
      obtain ⟨y153, hy153⟩ : ∃ y_ : List Int, y_ = (t150.set (a1 : Int).toNat 0) := ⟨_, rfl⟩
      replace H : (if 0 ≤ (wrap64 (a1 + 1)) then (if (wrap64 (a1 + 1)) < (t150.length : Int) then ((some (y153.set ((wrap64 (a1 + 1)) : Int).toNat 0 : List Int)).bind fun y154 => ((fletcher_Sum.f kj2 y154).bind fun bt155 => ((fletcher_reduce.f (wrap64 ((wrap64 ((l0.length : Int) - a1)) - 1))).bind fun t157 => ((fletcher_reduce.f (wrap64 ((wrap64 (t157 * bt155.1)) - bt155.2))).bind fun t158 => ((fletcher_reduce.f (wrap64 ((wrap64 (-bt155.1)) - t158))).bind fun t159 => (some (((y154.set (a1 : Int).toNat ((t158) % 256)).set ((wrap64 (a1 + 1)) : Int).toNat ((t159) % 256)), 0))))))) else (none)) else (none)) = some (r1, r2) := by first | (rw [hy153]; with_reducible exact H) | (have H2_ := (Option.bind_some _ _).symm.trans H; rw [hy153]; with_reducible exact H2_) | (have H2_ := (Option.bind_some _ _).symm.trans H; with_reducible exact H2_) | with_reducible exact H | (rw [hy153]; exact H) | exact H
      have Ny153 := Aside0.mk hy153
      clear hy153
      obtain ⟨ji10, hji10⟩ : ∃ j_ : Int, (wrap64 (a1 + 1)) = j_ := ⟨_, rfl⟩
      replace H : (if 0 ≤ (ji10) then (if (ji10) < (t150.length : Int) then ((some (y153.set ((ji10) : Int).toNat 0 : List Int)).bind fun y154 => ((fletcher_Sum.f kj2 y154).bind fun bt155 => ((fletcher_reduce.f (wrap64 ((wrap64 ((l0.length : Int) - a1)) - 1))).bind fun t157 => ((fletcher_reduce.f (wrap64 ((wrap64 (t157 * bt155.1)) - bt155.2))).bind fun t158 => ((fletcher_reduce.f (wrap64 ((wrap64 (-bt155.1)) - t158))).bind fun t159 => (some (((y154.set (a1 : Int).toNat ((t158) % 256)).set ((ji10) : Int).toNat ((t159) % 256)), 0))))))) else (none)) else (none)) = some (r1, r2) := by first | (rw [hji10] at H; exact H) | (simp only [hji10] at H ⊢; exact H)
      (try rw [hji10] at A6)
      have hji10w : (IntKind.i64.wrap (a1 + 1)) = ji10 := (i64_w _).trans hji10
      by_cases c11 : 0 ≤ (ji10)
      ·rw [if_pos c11] at H
       have c11b0 : decide (0 ≤ (ji10)) = true := decide_eq_true c11
       clear c11
       by_cases c12 : (ji10) < (t150.length : Int)
       ·rw [if_pos c12] at H
        have c12b0 : decide ((ji10) < (t150.length : Int)) = true := decide_eq_true c12
        clear c12
        obtain ⟨y154, hy154⟩ : ∃ y_ : List Int, y_ = (y153.set ((ji10) : Int).toNat 0) := ⟨_, rfl⟩
        replace H : ((fletcher_Sum.f kj2 y154).bind fun bt155 => ((fletcher_reduce.f (wrap64 ((wrap64 ((l0.length : Int) - a1)) - 1))).bind fun t157 => ((fletcher_reduce.f (wrap64 ((wrap64 (t157 * bt155.1)) - bt155.2))).bind fun t158 => ((fletcher_reduce.f (wrap64 ((wrap64 (-bt155.1)) - t158))).bind fun t159 => (some (((y154.set (a1 : Int).toNat ((t158) % 256)).set ((ji10) : Int).toNat ((t159) % 256)), 0)))))) = some (r1, r2) := by first | (rw [hy154]; with_reducible exact H) | (have H2_ := (Option.bind_some _ _).symm.trans H; rw [hy154]; with_reducible exact H2_) | (have H2_ := (Option.bind_some _ _).symm.trans H; with_reducible exact H2_) | with_reducible exact H | (rw [hy154]; exact H) | exact H
        have Ny154 := Aside0.mk hy154
        clear hy154
        replace H := Option.bind_eq_some_iff.mp H
        obtain ⟨⟨t155, t156⟩, A140, H⟩ := H
        replace H : ((fletcher_reduce.f (wrap64 ((wrap64 ((l0.length : Int) - a1)) - 1))).bind fun t157 => ((fletcher_reduce.f (wrap64 ((wrap64 (t157 * t155)) - t156))).bind fun t158 => ((fletcher_reduce.f (wrap64 ((wrap64 (-t155)) - t158))).bind fun t159 => (some (((y154.set (a1 : Int).toNat ((t158) % 256)).set ((ji10) : Int).toNat ((t159) % 256)), 0))))) = some (r1, r2) := H
        have A14 := Aside0.mk A140
        clear A140
        replace H := Option.bind_eq_some_iff.mp H
        obtain ⟨t157, A150, H⟩ := H
        replace H : ((fletcher_reduce.f (wrap64 ((wrap64 (t157 * t155)) - t156))).bind fun t158 => ((fletcher_reduce.f (wrap64 ((wrap64 (-t155)) - t158))).bind fun t159 => (some (((y154.set (a1 : Int).toNat ((t158) % 256)).set ((ji10) : Int).toNat ((t159) % 256)), 0)))) = some (r1, r2) := H
        have A15 := Aside0.mk A150
        clear A150
        replace H := Option.bind_eq_some_iff.mp H
        obtain ⟨t158, A160, H⟩ := H
        replace H : ((fletcher_reduce.f (wrap64 ((wrap64 (-t155)) - t158))).bind fun t159 => (some (((y154.set (a1 : Int).toNat ((t158) % 256)).set ((ji10) : Int).toNat ((t159) % 256)), 0))) = some (r1, r2) := H
        have A16 := Aside0.mk A160
        clear A160
        replace H := Option.bind_eq_some_iff.mp H
        obtain ⟨t159, A170, H⟩ := H
        replace H : (some (((y154.set (a1 : Int).toNat ((t158) % 256)).set ((ji10) : Int).toNat ((t159) % 256)), 0)) = some (r1, r2) := H
        have A17 := Aside0.mk A170
        clear A170
        obtain ⟨y160, hy160⟩ : ∃ y_ : List Int, y_ = (y154.set (a1 : Int).toNat ((t158) % 256)) := ⟨_, rfl⟩
        replace H : (some ((y160.set ((ji10) : Int).toNat ((t159) % 256)), 0)) = some (r1, r2) := by first | (rw [hy160]; with_reducible exact H) | (have H2_ := (Option.bind_some _ _).symm.trans H; rw [hy160]; with_reducible exact H2_) | (have H2_ := (Option.bind_some _ _).symm.trans H; with_reducible exact H2_) | with_reducible exact H | (rw [hy160]; exact H) | exact H
        have Ny160 := Aside0.mk hy160
        clear hy160
        obtain ⟨y161, hy161⟩ : ∃ y_ : List Int, y_ = (y160.set ((ji10) : Int).toNat ((t159) % 256)) := ⟨_, rfl⟩
        replace H : (some (y161, 0)) = some (r1, r2) := by first | (rw [hy161]; with_reducible exact H) | (have H2_ := (Option.bind_some _ _).symm.trans H; rw [hy161]; with_reducible exact H2_) | (have H2_ := (Option.bind_some _ _).symm.trans H; with_reducible exact H2_) | with_reducible exact H | (rw [hy161]; exact H) | exact H
        have Ny161 := Aside0.mk hy161
        clear hy161
        simp only [Option.some.injEq, Prod.mk.injEq] at H
        obtain ⟨rfl, rfl⟩ := H
        go_wp2_with (first | ((with_reducible refine gate_callee (f := 56) rfl ?_); refine goesL_ (some 22) rfl rfl Try.func56 (by kernel_rfl) rfl #[.slice A0 l0.length c0] rfl (by (try simp only [List.map_toArray, List.map_cons, List.map_nil]); first | done | rfl | (simp only [List.length_drop, List.length_take]; rfl)) ?_; (with_reducible refine (slices_Clone_byte_byte.calls _ _ l0 t150 _ ?side1 ?side2 A6.out).mono ?_); (case side1 => exact cs_ HR0 HB); (case side2 => exact HC0.out); rintro e w20 ⟨v151, rfl, ho0, hb⟩; refine ⟨_, rfl, ?_⟩; have HO152 := Aside0.mk (Kd.R_lower ho0 (below_size (kw_ HB))); replace HB := bs_ HB hb; (try clear hb); (try clear hb2); (try clear hk); (try clear hi); (try clear ho0); have p9 : 0 ≤ (a1 : Int) := of_decide_eq_true (by first | (with_reducible assumption) | assumption); have q9 : (a1 : Int) < ((t150.length : Int) : Int) := of_decide_eq_true (by first | (with_reducible assumption) | assumption); obtain ⟨go9, co9, eo9, gb9, gl9, cl9, HG9⟩ := Kd.R_form HO152.out (by omega); (first | cases eo9 | (injection eo9 with ea_ en_ ec_; (first | subst ea_ | (injection ea_ with ea_; subst ea_)); subst ec_; clear en_)); have GB9 := Aside0.mk gb9; have GG9 := Aside0.mk HG9; clear gb9 gl9 HG9; obtain ⟨hx9_0, hf9_0⟩ := Kd.R_celln 0 HO152.out (a1 : Int) p9 q9; replace p9 := eq_true p9; replace q9 := eq_true q9; obtain ⟨hy21_, hz21_⟩ := Kd.R_celln 0 HO152.out (a1 : Int) (of_decide_eq_true (by first | (with_reducible assumption) | assumption)) (of_decide_eq_true (by first | (with_reducible assumption) | assumption)); have HP21 := Kd.R_putg HO152.out (a1 : Int) 0) | ((with_reducible refine gate_store (t := 5) (p := 28) rfl ?_); refine store_event (t := 5) (p := 28) (v := ?vo_w22) (w1 := (w20.setCell ⟨go9, (a1 : Int).toNat, none⟩ (.int .u8 0))) ?hg ?ho ?hn ?hr ?_; (case ho => rfl); (case hg => rfl); (case hn => rfl); (case hr => first | (go_simp; done) | (go_simp; rfl)); intro w22 hw; have hg : w20.grownBy w22 (some go9) := (by rw [hw]; exact HP21.2); have hp_ : Kd.R (Kd.int .u8) 5 w22 w.heap.size (fun _ => True) (.slice (some ⟨go9, 0, none⟩) t150.length co9) y153 := (by rw [hw, Ny153.out]; exact HP21.1); clear HP21; replace HO152 := Aside0.mk (hp_); replace HB := Aside0.mk ((by rw [hw]; exact below_set (HB.out) GB9.out : Below w.heap.size w w22)); clear hg hw hp_; have p13 : 0 ≤ ((ji10) : Int) := of_decide_eq_true (by first | (with_reducible assumption) | assumption); have q13 : ((ji10) : Int) < ((t150.length : Int) : Int) := of_decide_eq_true (by first | (with_reducible assumption) | assumption); obtain ⟨hx13_0, hf13_0⟩ := Kd.R_celln 0 HO152.out ((ji10) : Int) p13 q13; replace p13 := eq_true p13; replace q13 := eq_true q13; obtain ⟨hy23_, hz23_⟩ := Kd.R_celln 0 HO152.out ((ji10) : Int) (of_decide_eq_true (by first | (with_reducible assumption) | assumption)) (of_decide_eq_true (by first | (with_reducible assumption) | assumption)); have HP23 := Kd.R_putg HO152.out ((ji10) : Int) 0) | ((with_reducible refine gate_store (t := 5) (p := 29) rfl ?_); refine store_event (t := 5) (p := 29) (v := ?vo_w24) (w1 := (w22.setCell ⟨go9, ((ji10) : Int).toNat, none⟩ (.int .u8 0))) ?hg ?ho ?hn ?hr ?_; (case ho => rfl); (case hg => rfl); (case hn => rfl); (case hr => first | (go_simp; done) | (go_simp; rfl)); intro w24 hw; have hg : w22.grownBy w24 (some go9) := (by rw [hw]; exact HP23.2); have hp_ : Kd.R (Kd.int .u8) 5 w24 w.heap.size (fun _ => True) (.slice (some ⟨go9, 0, none⟩) t150.length co9) y154 := (by rw [hw, Ny154.out]; exact HP23.1); clear HP23; replace HO152 := Aside0.mk (hp_); replace HB := Aside0.mk ((by rw [hw]; exact below_set (HB.out) GB9.out : Below w.heap.size w w24)); clear hg hw hp_) | ((with_reducible refine gate_callee (f := 57) rfl ?_); refine goesL_ (some 32) rfl rfl Try.func57 (by kernel_rfl) rfl #[.slice (some ⟨go9, 0, none⟩) y154.length co9] rfl (by (try simp only [List.map_toArray, List.map_cons, List.map_nil]); first | done | (rw [show y154.length = t150.length from (Kd.R_reads' HO152.out).1.symm] <;> rfl) | rfl | (simp only [List.length_drop, List.length_take]; rfl)) ?_; (with_reducible refine (fletcher_Sum.calls kj2 _ _ y154 t155 t156 _ ?side1 ?side2 A14.out).mono ?_); (case side1 => repeat (first | exact (Kd.R_reads' HO152.out).2.2 | (with_reducible refine Kd.C_alloc ?_ _) | (with_reducible refine Kd.C_drewN ?_ _) | (with_reducible refine Kd.C_drew ?_))); (case side2 => rw [show y154.length = t150.length from (Kd.R_reads' HO152.out).1.symm]; exact (Kd.R_reads' HO152.out).2.1); rintro e w' ⟨rfl, ⟨nd, rfl⟩⟩; refine ⟨_, rfl, ?_⟩; (try (rw [drewN_self w24]; generalize hq_ : World.drewN w24 _ = w24; replace HO152 : Aside0 (Kd.R (Kd.int .u8) 5 w24 w.heap.size (fun _ => True) (.slice (some ⟨go9, 0, none⟩) t150.length co9) y154) := ⟨by rw [← hq_]; exact (by (with_reducible repeat (first | apply Kd.R_alloc | apply Kd.R_drewN | apply Kd.R_drew)); exact HO152.out)⟩; replace HB : Aside0 (Below w.heap.size w w24) := ⟨by rw [← hq_]; exact (kw_ HB)⟩; clear hq_))) | ((with_reducible refine gate_callee (f := 58) rfl ?_); refine goesL_ (some 41) rfl rfl Try.func58 (by kernel_rfl) rfl #[.int .i64 (wrap64 ((wrap64 ((l0.length : Int) - a1)) - 1))] rfl (by (try simp only [List.map_toArray, List.map_cons, List.map_nil]); first | done | rfl | (simp only [List.length_drop, List.length_take]; rfl)) ?_; (with_reducible refine (fletcher_reduce.calls (wrap64 ((wrap64 ((l0.length : Int) - a1)) - 1)) t157 _ A15.out).mono ?_); rintro e w' ⟨rfl, ⟨nd, rfl⟩⟩; refine ⟨_, rfl, ?_⟩; (try (rw [drewN_self w24]; generalize hq_ : World.drewN w24 _ = w24; replace HO152 : Aside0 (Kd.R (Kd.int .u8) 5 w24 w.heap.size (fun _ => True) (.slice (some ⟨go9, 0, none⟩) t150.length co9) y154) := ⟨by rw [← hq_]; exact (by (with_reducible repeat (first | apply Kd.R_alloc | apply Kd.R_drewN | apply Kd.R_drew)); exact HO152.out)⟩; replace HB : Aside0 (Below w.heap.size w w24) := ⟨by rw [← hq_]; exact (kw_ HB)⟩; clear hq_))) | ((with_reducible refine gate_callee (f := 58) rfl ?_); refine goesL_ (some 46) rfl rfl Try.func58 (by kernel_rfl) rfl #[.int .i64 (wrap64 ((wrap64 (t157 * t155)) - t156))] rfl (by (try simp only [List.map_toArray, List.map_cons, List.map_nil]); first | done | rfl | (simp only [List.length_drop, List.length_take]; rfl)) ?_; (with_reducible refine (fletcher_reduce.calls (wrap64 ((wrap64 (t157 * t155)) - t156)) t158 _ A16.out).mono ?_); rintro e w' ⟨rfl, ⟨nd, rfl⟩⟩; refine ⟨_, rfl, ?_⟩; (try (rw [drewN_self w24]; generalize hq_ : World.drewN w24 _ = w24; replace HO152 : Aside0 (Kd.R (Kd.int .u8) 5 w24 w.heap.size (fun _ => True) (.slice (some ⟨go9, 0, none⟩) t150.length co9) y154) := ⟨by rw [← hq_]; exact (by (with_reducible repeat (first | apply Kd.R_alloc | apply Kd.R_drewN | apply Kd.R_drew)); exact HO152.out)⟩; replace HB : Aside0 (Below w.heap.size w w24) := ⟨by rw [← hq_]; exact (kw_ HB)⟩; clear hq_))) | ((with_reducible refine gate_callee (f := 58) rfl ?_); refine goesL_ (some 51) rfl rfl Try.func58 (by kernel_rfl) rfl #[.int .i64 (wrap64 ((wrap64 (-t155)) - t158))] rfl (by (try simp only [List.map_toArray, List.map_cons, List.map_nil]); first | done | rfl | (simp only [List.length_drop, List.length_take]; rfl)) ?_; (with_reducible refine (fletcher_reduce.calls (wrap64 ((wrap64 (-t155)) - t158)) t159 _ A17.out).mono ?_); rintro e w' ⟨rfl, ⟨nd, rfl⟩⟩; refine ⟨_, rfl, ?_⟩; (try (rw [drewN_self w24]; generalize hq_ : World.drewN w24 _ = w24; replace HO152 : Aside0 (Kd.R (Kd.int .u8) 5 w24 w.heap.size (fun _ => True) (.slice (some ⟨go9, 0, none⟩) t150.length co9) y154) := ⟨by rw [← hq_]; exact (by (with_reducible repeat (first | apply Kd.R_alloc | apply Kd.R_drewN | apply Kd.R_drew)); exact HO152.out)⟩; replace HB : Aside0 (Below w.heap.size w w24) := ⟨by rw [← hq_]; exact (kw_ HB)⟩; clear hq_)); have p18 : 0 ≤ (a1 : Int) := of_decide_eq_true (by first | (with_reducible assumption) | assumption); have q18 : (a1 : Int) < ((t150.length : Int) : Int) := of_decide_eq_true (by first | (with_reducible assumption) | assumption); obtain ⟨hx18_0, hf18_0⟩ := Kd.R_celln 0 HO152.out (a1 : Int) p18 q18; replace p18 := eq_true p18; replace q18 := eq_true q18; obtain ⟨hy25_, hz25_⟩ := Kd.R_celln 0 HO152.out (a1 : Int) (of_decide_eq_true (by first | (with_reducible assumption) | assumption)) (of_decide_eq_true (by first | (with_reducible assumption) | assumption)); have HP25 := Kd.R_putg HO152.out (a1 : Int) ((t158) % 256)) | ((with_reducible refine gate_store (t := 5) (p := 61) rfl ?_); refine store_event (t := 5) (p := 61) (v := ?vo_w26) (w1 := (w24.setCell ⟨go9, (a1 : Int).toNat, none⟩ (.int .u8 ((t158) % 256)))) ?hg ?ho ?hn ?hr ?_; (case ho => rfl); (case hg => rfl); (case hn => rfl); (case hr => first | (go_simp; done) | (go_simp; rfl)); intro w26 hw; have hg : w24.grownBy w26 (some go9) := (by rw [hw]; exact HP25.2); have hp_ : Kd.R (Kd.int .u8) 5 w26 w.heap.size (fun _ => True) (.slice (some ⟨go9, 0, none⟩) t150.length co9) y160 := (by rw [hw, Ny160.out]; exact HP25.1); clear HP25; replace HO152 := Aside0.mk (hp_); replace HB := Aside0.mk ((by rw [hw]; exact below_set (HB.out) GB9.out : Below w.heap.size w w26)); clear hg hw hp_; have p19 : 0 ≤ ((ji10) : Int) := of_decide_eq_true (by first | (with_reducible assumption) | assumption); have q19 : ((ji10) : Int) < ((t150.length : Int) : Int) := of_decide_eq_true (by first | (with_reducible assumption) | assumption); obtain ⟨hx19_0, hf19_0⟩ := Kd.R_celln 0 HO152.out ((ji10) : Int) p19 q19; replace p19 := eq_true p19; replace q19 := eq_true q19; obtain ⟨hy27_, hz27_⟩ := Kd.R_celln 0 HO152.out ((ji10) : Int) (of_decide_eq_true (by first | (with_reducible assumption) | assumption)) (of_decide_eq_true (by first | (with_reducible assumption) | assumption)); have HP27 := Kd.R_putg HO152.out ((ji10) : Int) ((t159) % 256)) | ((with_reducible refine gate_store (t := 5) (p := 62) rfl ?_); refine store_event (t := 5) (p := 62) (v := ?vo_w28) (w1 := (w26.setCell ⟨go9, ((ji10) : Int).toNat, none⟩ (.int .u8 ((t159) % 256)))) ?hg ?ho ?hn ?hr ?_; (case ho => rfl); (case hg => rfl); (case hn => rfl); (case hr => first | (go_simp; done) | (go_simp; rfl)); intro w28 hw; have hg : w26.grownBy w28 (some go9) := (by rw [hw]; exact HP27.2); have hp_ : Kd.R (Kd.int .u8) 5 w28 w.heap.size (fun _ => True) (.slice (some ⟨go9, 0, none⟩) t150.length co9) y161 := (by rw [hw, Ny161.out]; exact HP27.1); clear HP27; replace HO152 := Aside0.mk (hp_); replace HB := Aside0.mk ((by rw [hw]; exact below_set (HB.out) GB9.out : Below w.heap.size w w28)); clear hg hw hp_))
        go_ret2
        exact ⟨_, by first | rfl | (simp [errW_none, errW_some] <;> rfl) | (simp only [← hji10]; first | rfl | (simp [errW_none, errW_some] <;> rfl)) | (simp [*, errW_none, errW_some] <;> rfl), by (with_reducible repeat (first | apply Kd.R_alloc | apply Kd.R_drewN | apply Kd.R_drew)); exact HO152.out, kw_ HB⟩
       ·rw [if_neg c12] at H
        exact absurd H (by simp)
      ·rw [if_neg c11] at H
       exact absurd H (by simp)
     ·rw [if_neg c8] at H
      exact absurd H (by simp)
    ·rw [if_neg c7] at H
     exact absurd H (by simp)

/-! ### lsa_Encode: function 12 -/
mutual
def lsa_Encode.l0 : Nat → List (S52) → List (S43) → Int → Int → Int → Int → Int → Bool → List (S43) → List (S56) → Option (List Int × Int)
 | 0, _, _, _, _, _, _, _, _, _, _ => none
 | k + 1, x4, x32, x33, x34, x163000, x163001, x163002, x163003, x163004, x163005 => if x34 < x33 then (if 0 ≤ x34 then (if x34 < (x32.length : Int) then ((lsa_value.f k (([(⟨(rd_T43 x32 x34).f0, 2⟩ : S48), (⟨(rd_T43 x32 x34).f1, 2⟩ : S48), (⟨(rd_T43 x32 x34).f2, 2⟩ : S48)] : List (S48)))).bind fun t179 => (if x4.length < 4398046511104 then (lsa_Encode.l0 k (x4 ++ [(⟨2, t179⟩ : S52)]) x32 x33 (wrap64 (x34 + 1)) x163000 x163001 x163002 x163003 x163004 x163005) else (none))) else (none)) else (none)) else (lsa_Encode.l1 k x4 x163005 (x163005.length : Int) 0)
def lsa_Encode.l1 : Nat → List (S52) → List (S56) → Int → Int → Option (List Int × Int)
 | 0, _, _, _, _ => none
 | k + 1, x4, x55, x56, x57 => if x57 < x56 then (if 0 ≤ x57 then (if x57 < (x55.length : Int) then ((lsa_value.f k (([(⟨wrap64 ((rd_T56 x55 x57).f0), 4⟩ : S48), (⟨(rd_T56 x55 x57).f1, 1⟩ : S48)] : List (S48)))).bind fun t190 => (if x4.length < 4398046511104 then (lsa_Encode.l1 k (x4 ++ [(⟨3, t190⟩ : S52)]) x55 x56 (wrap64 (x57 + 1))) else (none))) else (none)) else (none)) else (if 2 ≤ 281474976710656 then (if x4.length < 4398046511104 then ((codec_Encode.f k (x4 ++ [(⟨4, (List.replicate 2 0)⟩ : S52)])).bind fun bt202 => (if bt202.2 = 0 then ((fletcher_Seal.f k bt202.1 (wrap64 ((bt202.1.length : Int) - 2))).bind fun bt206 => (some (bt206.1, bt206.2))) else (some (([] : List Int), bt202.2)))) else (none)) else (none))
end
def lsa_Encode.f (k : Nat) (a0_0 : Int) (a0_1 : Int) (a0_2 : Int) (a0_3 : Bool) (l0_4 : List (S43)) (l0_5 : List (S56)) : Option (List Int × Int) := (lsa_Valid.f k a0_0 a0_1 a0_2 a0_3 l0_4 l0_5).bind fun t163 => (if t163 = true then ((lsa_flag.f a0_3).bind fun t164 => ((lsa_value.f k (([(⟨a0_0, 2⟩ : S48), (⟨a0_1, 4⟩ : S48), (⟨a0_2, 2⟩ : S48), (⟨t164, 1⟩ : S48)] : List (S48)))).bind fun t168 => (lsa_Encode.l0 k (([(⟨1, t168⟩ : S52)] : List (S52))) l0_4 (l0_4.length : Int) 0 a0_0 a0_1 a0_2 a0_3 l0_4 l0_5))) else (some (([] : List Int), 1)))
theorem lsa_Encode.mono_l : ∀ k, (∀ y0 y1 y2 y3 y4 y5 y6 y7 y8 y9, LeO (lsa_Encode.l0 k y0 y1 y2 y3 y4 y5 y6 y7 y8 y9) (lsa_Encode.l0 (k + 1) y0 y1 y2 y3 y4 y5 y6 y7 y8 y9)) ∧ (∀ y0 y1 y2 y3, LeO (lsa_Encode.l1 k y0 y1 y2 y3) (lsa_Encode.l1 (k + 1) y0 y1 y2 y3))
 | 0 => ⟨fun _ _ _ _ _ _ _ _ _ _ r h => by simp [lsa_Encode.l0] at h, fun _ _ _ _ r h => by simp [lsa_Encode.l1] at h⟩
 | k + 1 => by
  obtain ⟨ih0, ih1⟩ := lsa_Encode.mono_l k
  refine ⟨?_, ?_⟩
  ·intro y0 y1 y2 y3 y4 y5 y6 y7 y8 y9
   unfold lsa_Encode.l0
   repeat' first
   | (with_reducible exact ih0 _ _ _ _ _ _ _ _ _ _)
   | (with_reducible exact ih1 _ _ _ _)
   | (with_reducible exact codec_Encode.mono _ _)
   | (with_reducible exact fletcher_Seal.mono _ _ _)
   | (with_reducible exact lsa_Valid.mono _ _ _ _ _ _ _)
   | (with_reducible exact lsa_value.mono _ _)
   | (with_reducible exact LeO.refl _)
   | (with_reducible exact LeO.none _)
   | (with_reducible refine LeO.ite ?_ ?_)
   | (with_reducible refine LeO.bind ?_ (fun _ => ?_))
   | exact ih0 _ _ _ _ _ _ _ _ _ _
   | exact ih1 _ _ _ _
   | exact codec_Encode.mono _ _
   | exact fletcher_Seal.mono _ _ _
   | exact lsa_Valid.mono _ _ _ _ _ _ _
   | exact lsa_value.mono _ _
   | exact LeO.none _
   | refine LeO.ite ?_ ?_
   | refine LeO.bind ?_ (fun _ => ?_)
  ·intro y0 y1 y2 y3
   unfold lsa_Encode.l1
   repeat' first
   | (with_reducible exact ih0 _ _ _ _ _ _ _ _ _ _)
   | (with_reducible exact ih1 _ _ _ _)
   | (with_reducible exact codec_Encode.mono _ _)
   | (with_reducible exact fletcher_Seal.mono _ _ _)
   | (with_reducible exact lsa_Valid.mono _ _ _ _ _ _ _)
   | (with_reducible exact lsa_value.mono _ _)
   | (with_reducible exact LeO.refl _)
   | (with_reducible exact LeO.none _)
   | (with_reducible refine LeO.ite ?_ ?_)
   | (with_reducible refine LeO.bind ?_ (fun _ => ?_))
   | exact ih0 _ _ _ _ _ _ _ _ _ _
   | exact ih1 _ _ _ _
   | exact codec_Encode.mono _ _
   | exact fletcher_Seal.mono _ _ _
   | exact lsa_Valid.mono _ _ _ _ _ _ _
   | exact lsa_value.mono _ _
   | exact LeO.none _
   | refine LeO.ite ?_ ?_
   | refine LeO.bind ?_ (fun _ => ?_)
theorem lsa_Encode.mono : ∀ a0 a1 a2 a3 a4 a5 k, LeO (lsa_Encode.f k a0 a1 a2 a3 a4 a5) (lsa_Encode.f (k + 1) a0 a1 a2 a3 a4 a5) := by
 intro a0 a1 a2 a3 a4 a5 k
 obtain ⟨ih0, ih1⟩ := lsa_Encode.mono_l k
 unfold lsa_Encode.f
 repeat' first
   | (with_reducible exact ih0 _ _ _ _ _ _ _ _ _ _)
   | (with_reducible exact ih1 _ _ _ _)
   | (with_reducible exact codec_Encode.mono _ _)
   | (with_reducible exact fletcher_Seal.mono _ _ _)
   | (with_reducible exact lsa_Valid.mono _ _ _ _ _ _ _)
   | (with_reducible exact lsa_value.mono _ _)
   | (with_reducible exact LeO.refl _)
   | (with_reducible exact LeO.none _)
   | (with_reducible refine LeO.ite ?_ ?_)
   | (with_reducible refine LeO.bind ?_ (fun _ => ?_))
   | exact ih0 _ _ _ _ _ _ _ _ _ _
   | exact ih1 _ _ _ _
   | exact codec_Encode.mono _ _
   | exact fletcher_Seal.mono _ _ _
   | exact lsa_Valid.mono _ _ _ _ _ _ _
   | exact lsa_value.mono _ _
   | exact LeO.none _
   | refine LeO.ite ?_ ?_
   | refine LeO.bind ?_ (fun _ => ?_)
def lsa_Encode.T3 : Bool × List (List Nat × List Nat) := (true, [([], []), ([0], [0]), ([1], [1]), ([], []), ([3], [3]), ([4], [4]), ([], []), ([6], [6]), ([7], [7]), ([], []), ([9], [9]), ([10], [10]), ([11], [11]), ([2, 5, 8, 12], [2, 5, 8, 12]), ([13, 11], [13]), ([14], [14]), ([15], [15]), ([16, 14, 0, 1, 2, 3, 4, 5, 6, 7, 8, 9, 10, 11, 12, 13, 14, 15, 16], [16])])
def lsa_Encode.B3 : List Nat := [0, 1, 3, 0, 8, 24, 0, 64, 192, 0, 512, 1536, 3584, 8191, 16383, 32767, 65535, 131071]
theorem lsa_Encode.tab3 : rtab .any (opsOf Try.f12 3) = lsa_Encode.T3 := by kernel_rfl
theorem lsa_Encode.bits3 : waitsOk lsa_Encode.T3.2 lsa_Encode.B3 = true := by kernel_rfl
set_option maxHeartbeats 8000000 in
set_option maxRecDepth 100000 in
theorem lsa_Encode.calls (k : Nat) (a0_0 : Int) (a0_1 : Int) (a0_2 : Int) (a0_3 : Bool) (A0_4 : Option Addr) (c0_4 : Nat) (l0_4 : List (S43)) (A0_5 : Option Addr) (c0_5 : Nat) (l0_5 : List (S56)) (r1 : List Int) (r2 : Int) (w : World) (hr0_4 : Kd.C k43 w A0_4 l0_4.length l0_4) (hc0_4 : l0_4.length ≤ c0_4) (hr0_5 : Kd.C k56 w A0_5 l0_5.length l0_5) (hc0_5 : l0_5.length ≤ c0_5) (h : lsa_Encode.f k a0_0 a0_1 a0_2 a0_3 l0_4 l0_5 = some (r1, r2)) :
  Calls Try.prog 12 #[.agg #[.int .i64 a0_0, .int .i64 a0_1, .int .i64 a0_2, .bool a0_3, .slice A0_4 l0_4.length c0_4, .slice A0_5 l0_5.length c0_5]] w fun e w' => ∃ v0_ : Value, e = .returned (.tuple #[v0_, .int .i64 r2]) ∧ Kd.R (Kd.int .u8) 5 w' w.heap.size (fun _ => True) v0_ r1 ∧ Below w.heap.size w w' := by
 have hu25 := Try.underlying25
 have hu48 := Try.underlying48
 have hu52 := Try.underlying52
 have hu43 := Try.underlying43
 have hu56 := Try.underlying56
 have HR0_4 := Aside0.mk hr0_4
 have HC0_4 := Aside0.mk hc0_4
 clear hr0_4 hc0_4
 have HR0_5 := Aside0.mk hr0_5
 have HC0_5 := Aside0.mk hc0_5
 clear hr0_5 hc0_5
 have HB := Aside0.mk (Below.refl w.heap.size w)
 have H : ((lsa_Valid.f k a0_0 a0_1 a0_2 a0_3 l0_4 l0_5).bind fun t163 => (if t163 = true then ((lsa_flag.f a0_3).bind fun t164 => ((lsa_value.f k (([(⟨a0_0, 2⟩ : S48), (⟨a0_1, 4⟩ : S48), (⟨a0_2, 2⟩ : S48), (⟨t164, 1⟩ : S48)] : List (S48)))).bind fun t168 => (lsa_Encode.l0 k (([(⟨1, t168⟩ : S52)] : List (S52))) l0_4 (l0_4.length : Int) 0 a0_0 a0_1 a0_2 a0_3 l0_4 l0_5))) else (some (([] : List Int), 1)))) = some (r1, r2) := h
 clear h
 replace H := Option.bind_eq_some_iff.mp H
 obtain ⟨t163, A20, H⟩ := H
 replace H : (if t163 = true then ((lsa_flag.f a0_3).bind fun t164 => ((lsa_value.f k (([(⟨a0_0, 2⟩ : S48), (⟨a0_1, 4⟩ : S48), (⟨a0_2, 2⟩ : S48), (⟨t164, 1⟩ : S48)] : List (S48)))).bind fun t168 => (lsa_Encode.l0 k (([(⟨1, t168⟩ : S52)] : List (S52))) l0_4 (l0_4.length : Int) 0 a0_0 a0_1 a0_2 a0_3 l0_4 l0_5))) else (some (([] : List Int), 1))) = some (r1, r2) := H
 have A2 := Aside0.mk A20
 clear A20
 by_cases c3 : t163 = true
 ·subst c3
  have H1 : ((lsa_flag.f a0_3).bind fun t164 => ((lsa_value.f k (([(⟨a0_0, 2⟩ : S48), (⟨a0_1, 4⟩ : S48), (⟨a0_2, 2⟩ : S48), (⟨t164, 1⟩ : S48)] : List (S48)))).bind fun t168 => (lsa_Encode.l0 k (([(⟨1, t168⟩ : S52)] : List (S52))) l0_4 (l0_4.length : Int) 0 a0_0 a0_1 a0_2 a0_3 l0_4 l0_5))) = some (r1, r2) := by rw [if_pos rfl] at H; exact H
  clear H
  have H := H1
  clear H1
  replace H := Option.bind_eq_some_iff.mp H
  obtain ⟨t164, A40, H⟩ := H
  replace H : ((lsa_value.f k (([(⟨a0_0, 2⟩ : S48), (⟨a0_1, 4⟩ : S48), (⟨a0_2, 2⟩ : S48), (⟨t164, 1⟩ : S48)] : List (S48)))).bind fun t168 => (lsa_Encode.l0 k (([(⟨1, t168⟩ : S52)] : List (S52))) l0_4 (l0_4.length : Int) 0 a0_0 a0_1 a0_2 a0_3 l0_4 l0_5)) = some (r1, r2) := H
  have A4 := Aside0.mk A40
  clear A40
  obtain ⟨y165, hy165⟩ : ∃ y_ : List (S48), y_ = (([(⟨a0_0, 2⟩ : S48), (⟨a0_1, 4⟩ : S48), (⟨a0_2, 2⟩ : S48), (⟨t164, 1⟩ : S48)] : List (S48))) := ⟨_, rfl⟩
  replace H : ((lsa_value.f k y165).bind fun t168 => (lsa_Encode.l0 k (([(⟨1, t168⟩ : S52)] : List (S52))) l0_4 (l0_4.length : Int) 0 a0_0 a0_1 a0_2 a0_3 l0_4 l0_5)) = some (r1, r2) := by first | (rw [hy165]; with_reducible exact H) | (have H2_ := (Option.bind_some _ _).symm.trans H; rw [hy165]; with_reducible exact H2_) | (have H2_ := (Option.bind_some _ _).symm.trans H; with_reducible exact H2_) | with_reducible exact H | (rw [hy165]; exact H) | exact H
  have Ny165 := Aside0.mk hy165
  clear hy165
  replace H := Option.bind_eq_some_iff.mp H
  obtain ⟨t168, A50, H⟩ := H
  replace H : (lsa_Encode.l0 k (([(⟨1, t168⟩ : S52)] : List (S52))) l0_4 (l0_4.length : Int) 0 a0_0 a0_1 a0_2 a0_3 l0_4 l0_5) = some (r1, r2) := H
  have A5 := Aside0.mk A50
  clear A50
  obtain ⟨y171, hy171⟩ : ∃ y_ : List (S52), y_ = (([(⟨1, t168⟩ : S52)] : List (S52))) := ⟨_, rfl⟩
  replace H : (lsa_Encode.l0 k y171 l0_4 (l0_4.length : Int) 0 a0_0 a0_1 a0_2 a0_3 l0_4 l0_5) = some (r1, r2) := by first | (rw [hy171]; with_reducible exact H) | (have H2_ := (Option.bind_some _ _).symm.trans H; rw [hy171]; with_reducible exact H2_) | (have H2_ := (Option.bind_some _ _).symm.trans H; with_reducible exact H2_) | with_reducible exact H | (rw [hy171]; exact H) | exact H
  have Ny171 := Aside0.mk hy171
  clear hy171
  have H' := Aside0.mk H
  clear H
  go_enter Try.func12, Try.ntmps12
  try go_wp2_with (first | ((with_reducible refine gate_dst (N := 1) rfl ?_); refine bx_ 1 #[.int .i64 a0_0, .int .i64 a0_1, .int .i64 a0_2, .bool a0_3, .slice A0_4 l0_4.length c0_4, .slice A0_5 l0_5.length c0_5] 25 rfl rfl ?hr ?_; (case hr => go_simp; try rfl); intro gb162 hg w6 hbox hb; have BK162 := Aside0.mk (hbox); have GW162 := gs_ HB hg; have GE162 := gs_ HB hg; replace HB := bs_ HB hb; clear hb hbox hg; obtain ⟨hcz7_0, hcz7_1, hcz7_2, hcz7_3, hcz7_4, hcz7_5, hfz7_0, hfz7_1, hfz7_2, hfz7_3, hfz7_4, hfz7_5⟩ := c6_ BK162) | ((with_reducible refine gate_callee (f := 14) rfl ?_); refine goesL_ (some 12) rfl rfl Try.func14 (by kernel_rfl) rfl #[.agg #[.int .i64 a0_0, .int .i64 a0_1, .int .i64 a0_2, .bool a0_3, .slice A0_4 l0_4.length c0_4, .slice A0_5 l0_5.length c0_5]] rfl (by (try simp only [List.map_toArray, List.map_cons, List.map_nil]); first | done | rfl | (simp only [List.length_drop, List.length_take]; rfl)) ?_; (with_reducible refine (lsa_Valid.calls k a0_0 a0_1 a0_2 a0_3 _ _ l0_4 _ _ l0_5 true _ ?side1 ?side2 ?side3 ?side4 A2.out).mono ?_); (case side1 => exact cs_ HR0_4 HB); (case side2 => exact HC0_4.out); (case side3 => exact cs_ HR0_5 HB); (case side4 => exact HC0_5.out); rintro e w8 ⟨rfl, hb⟩; refine ⟨_, rfl, ?_⟩; replace BK162 := bb_ BK162 hb; replace HB := Aside0.mk (below_step (by repeat (first | (with_reducible first | exact HB.out | apply bU | apply bS GE162.out) | exact HB.out)) hb); (try clear hb); (try clear hb2); (try clear hk); (try clear hi)))
  replace BK162 := Aside0.mk (blk_drew BK162.out)
  replace HB := Aside0.mk (below_drew1 HB.out)
  refine start_ (n := 18) (S := fun w' => w'.cell? ⟨gb162, 0, none⟩ = some (.int .i64 a0_0) ∧ w'.cell? ⟨gb162, 1, none⟩ = some (.int .i64 a0_1) ∧ w'.cell? ⟨gb162, 2, none⟩ = some (.int .i64 a0_2) ∧ w'.cell? ⟨gb162, 3, none⟩ = some (.bool a0_3) ∧ w'.cell? ⟨gb162, 4, none⟩ = some (.slice A0_4 l0_4.length c0_4) ∧ w'.cell? ⟨gb162, 5, none⟩ = some (.slice A0_5 l0_5.length c0_5)) (ds := []) #[false, false, false, false, false, false, false, false, false, false, false, false, false, false, false, false, false, false] (by kernel_rfl) rfl rfl ⟨(blk_cell BK162.out 0).trans rfl, (blk_cell BK162.out 1).trans rfl, (blk_cell BK162.out 2).trans rfl, (blk_cell BK162.out 3).trans rfl, (blk_cell BK162.out 4).trans rfl, (blk_cell BK162.out 5).trans rfl⟩ (fun hHeld => ?_); refine with_tabW lsa_Encode.tab3 lsa_Encode.bits3 (fun HT_ HW_ => ?_)
  generalize w8.drew = w9 at BK162 HB hHeld ⊢
  refine py 0 14 HT_ ?_
  refine py 3 17 HT_ ?_
  refine py 6 20 HT_ ?_
  refine py 9 23 HT_ ?_
  refine ty 1 15 HT_ HW_ rfl (Or.inl ⟨by rfl, by rintro w' ⟨s0, s1, s2, s3, s4, s5⟩; go_simp; with_reducible rfl⟩) hHeld ?_
  refine py 2 16 HT_ ?_
  refine ty 4 18 HT_ HW_ rfl (Or.inl ⟨by rfl, by rintro w' ⟨s0, s1, s2, s3, s4, s5⟩; go_simp; with_reducible rfl⟩) hHeld ?_
  refine py 5 19 HT_ ?_
  refine ty 7 21 HT_ HW_ rfl (Or.inl ⟨by rfl, by rintro w' ⟨s0, s1, s2, s3, s4, s5⟩; go_simp; with_reducible rfl⟩) hHeld ?_
  refine py 8 22 HT_ ?_
  refine ty 10 24 HT_ HW_ rfl (Or.inl ⟨by rfl, by rintro w' ⟨s0, s1, s2, s3, s4, s5⟩; go_simp; with_reducible rfl⟩) hHeld ?_
  refine one_ (i := 11) (N := some 25) #[true, true, true, true, true, true, true, true, true, true, true, true, false, false, false, false, false, false] rfl rfl (one_of HT_.out (by kernel_rfl)) (by decide) (fun K hK => ?_)
  refine goes_ Try.func26 (by kernel_rfl) rfl #[.bool a0_3] (by rfl) rfl rfl (by (try simp only [List.map_toArray, List.map_cons, List.map_nil]); first | done | rfl | (simp only [List.length_drop, List.length_take]; rfl)) ?_
  with_reducible refine (lsa_flag.calls a0_3 t164 _ A4.out).mono ?_
  rintro e w' ⟨rfl, ⟨nd, rfl⟩⟩
  refine ⟨_, rfl, ?_⟩
  refine hK.out _ _ ⟨(blk_cell BK162.out 0).trans rfl, (blk_cell BK162.out 1).trans rfl, (blk_cell BK162.out 2).trans rfl, (blk_cell BK162.out 3).trans rfl, (blk_cell BK162.out 4).trans rfl, (blk_cell BK162.out 5).trans rfl⟩ (fun hHeld => ?_)
  clear hK K
  refine norm_ (a' := ?_) ?_ ?_
  rotate_left
  ·show Act.put _ (some 25) _ = _
   simp only [Act.put, List.setIfInBounds_toArray, List.set_cons_zero, List.set_cons_succ, i64_w, i32_w]
   rfl
  refine py 12 26 HT_ ?_
  refine one_ (i := 13) (N := some 27) #[true, true, true, true, true, true, true, true, true, true, true, true, true, true, false, false, false, false] rfl rfl (one_of HT_.out (by kernel_rfl)) (by decide) (fun K hK => ?_)
  refine Kd.R_lit_step k48 _ 48 ?hg (N := 27) ?hd (xs := ([(⟨a0_0, 2⟩ : S48), (⟨a0_1, 4⟩ : S48), (⟨a0_2, 2⟩ : S48), (⟨t164, 1⟩ : S48)] : List (S48))) (inner := [.int .i64 a0_0, .int .i64 2, .int .i64 a0_1, .int .i64 4, .int .i64 a0_2, .int .i64 2, .int .i64 t164, .int .i64 1]) (ok := fun _ => True) (okp := fun _ => True) ?hr ?hp (fun _ hk => hk) trivial (Below.refl _ _) (Nat.le_refl _) (by simp) ?_; (case hd => rfl); (case hg => rfl); (case hr => first | (go_simp; done) | (go_simp; rfl)); (case hp => exact (Reps.c2 (show Kd.M k48 _ _ _ (⟨a0_0, 2⟩ : S48) [.int .i64 a0_0, .int .i64 2] from (k48_mkM _ _ _ (⟨a0_0, 2⟩ : S48) )) (Reps.c2 (show Kd.M k48 _ _ _ (⟨a0_1, 4⟩ : S48) [.int .i64 a0_1, .int .i64 4] from (k48_mkM _ _ _ (⟨a0_1, 4⟩ : S48) )) (Reps.c2 (show Kd.M k48 _ _ _ (⟨a0_2, 2⟩ : S48) [.int .i64 a0_2, .int .i64 2] from (k48_mkM _ _ _ (⟨a0_2, 2⟩ : S48) )) (Reps.c2 (show Kd.M k48 _ _ _ (⟨t164, 1⟩ : S48) [.int .i64 t164, .int .i64 1] from (k48_mkM _ _ _ (⟨t164, 1⟩ : S48) )) (Reps.none _ _))))))
  intro v166 w10 ho11 hb hg_ hnew_
  clear hg_ hnew_
  (first | rw [← Ny165.out] at ho11 | (simp only [Int.reduceToNat] at ho11; rw [← Ny165.out] at ho11))
  have HO167 := Aside0.mk (Kd.R_lower ho11 (below_size (by repeat (first | (with_reducible first | exact HB.out | apply bU | apply bS GE162.out) | exact HB.out))))
  replace BK162 := bb_ BK162 hb
  replace HB := Aside0.mk (below_step (by repeat (first | (with_reducible first | exact HB.out | apply bU | apply bS GE162.out) | exact HB.out)) hb)
  clear hb ho11
  obtain ⟨Ao12, co12, eo12⟩ := Kd.R_slice HO167.out
  (first | subst eo12 | (injection eo12 with f1_ f2_ f3_; have f4_ := f1_.symm; have f5_ := f3_.symm; clear f1_ f2_ f3_; subst f4_; subst f5_))
  refine hK.out _ _ ⟨(blk_cell BK162.out 0).trans rfl, (blk_cell BK162.out 1).trans rfl, (blk_cell BK162.out 2).trans rfl, (blk_cell BK162.out 3).trans rfl, (blk_cell BK162.out 4).trans rfl, (blk_cell BK162.out 5).trans rfl⟩ (fun hHeld => ?_)
  clear hK K
  refine norm_ (a' := ?_) ?_ ?_
  rotate_left
  ·show Act.put _ (some 27) _ = _
   simp only [Act.put, List.setIfInBounds_toArray, List.set_cons_zero, List.set_cons_succ, i64_w, i32_w]
   rfl
  refine one_ (i := 14) (N := some 28) #[true, true, true, true, true, true, true, true, true, true, true, true, true, true, true, false, false, false] rfl rfl (one_of HT_.out (by kernel_rfl)) (by decide) (fun K hK => ?_)
  refine goes_ Try.func25 (by kernel_rfl) rfl #[.slice Ao12 y165.length co12] (by rfl) rfl rfl (by (try simp only [List.map_toArray, List.map_cons, List.map_nil]); first | done | rfl | (simp only [List.length_drop, List.length_take]; rfl)) ?_
  with_reducible refine (lsa_value.calls k _ _ y165 t168 _ ?side1 ?side2 A5.out).mono ?_
  (case side1 => repeat (first | exact (Kd.R_reads' HO167.out).2.2 | (with_reducible refine Kd.C_alloc ?_ _) | (with_reducible refine Kd.C_drewN ?_ _) | (with_reducible refine Kd.C_drew ?_)))
  (case side2 => exact (Kd.R_reads' HO167.out).2.1)
  rintro e w13 ⟨v169, rfl, ho0, hb⟩
  refine ⟨_, rfl, ?_⟩
  have HO170 := Aside0.mk (Kd.R_lower ho0 (below_size (by repeat (first | (with_reducible first | exact HB.out | apply bU | apply bS GE162.out) | exact HB.out))))
  replace HO167 := Aside0.mk (Kd.R_below (by (with_reducible repeat (first | apply Kd.R_alloc | apply Kd.R_drewN | apply Kd.R_drew)); exact HO167.out) hb)
  replace BK162 := bb_ BK162 hb
  replace HB := Aside0.mk (below_step (by repeat (first | (with_reducible first | exact HB.out | apply bU | apply bS GE162.out) | exact HB.out)) hb)
  (try clear hb)
  (try clear hb2)
  (try clear hk)
  (try clear hi)
  (try clear ho0)
  obtain ⟨Ao14, co14, eo14⟩ := Kd.R_slice HO170.out
  (first | subst eo14 | (injection eo14 with f1_ f2_ f3_; have f4_ := f1_.symm; have f5_ := f3_.symm; clear f1_ f2_ f3_; subst f4_; subst f5_))
  refine hK.out _ _ ⟨(blk_cell BK162.out 0).trans rfl, (blk_cell BK162.out 1).trans rfl, (blk_cell BK162.out 2).trans rfl, (blk_cell BK162.out 3).trans rfl, (blk_cell BK162.out 4).trans rfl, (blk_cell BK162.out 5).trans rfl⟩ (fun hHeld => ?_)
  clear hK K
  refine norm_ (a' := ?_) ?_ ?_
  rotate_left
  ·show Act.put _ (some 28) _ = _
   simp only [Act.put, List.setIfInBounds_toArray, List.set_cons_zero, List.set_cons_succ, i64_w, i32_w]
   rfl
  refine py 15 29 HT_ ?_
  refine one_ (i := 16) (N := some 30) #[true, true, true, true, true, true, true, true, true, true, true, true, true, true, true, true, true, false] rfl rfl (one_of HT_.out (by kernel_rfl)) (by decide) (fun K hK => ?_)
  refine Kd.N_lit_step k52 _ 52 ?hg (N' := 30) ?hd (xs := ([(⟨1, t168⟩ : S52)] : List (S52))) (inner := [.int .i64 1, .slice Ao14 t168.length co14]) (ok := (fun k_ => some k_ ≠ (.slice Ao12 y165.length co12 : Value).ownBlock ∧ k_ ≠ gb162)) (okp := (fun k_ => some k_ ≠ (.slice Ao12 y165.length co12 : Value).ownBlock ∧ k_ ≠ gb162)) ?hr ?hp (fun _ hk => hk) ((show ∀ k_, w13.heap.size ≤ k_ → (fun k_ => some k_ ≠ (.slice Ao12 y165.length co12 : Value).ownBlock ∧ k_ ≠ gb162) k_ from fun k_ hk => ⟨Kd.fresh' (Kd.R_lt (by (with_reducible repeat (first | apply Kd.R_alloc | apply Kd.R_drewN | apply Kd.R_drew)); exact HO167.out)) k_ hk, Kd.freshB (g := gb162) (o := .cells #[.int .i64 a0_0, .int .i64 a0_1, .int .i64 a0_2, .bool a0_3, .slice A0_4 l0_4.length c0_4, .slice A0_5 l0_5.length c0_5] 25 (0, 0)) (kb_ BK162) k_ hk⟩) _ (Nat.le_refl _)) (Below.refl _ _) (Nat.le_refl _) (by simp) ?_; (case hd => rfl); (case hg => rfl); (case hr => first | (go_simp; done) | (go_simp; rfl)); (case hp => exact (Reps.c2 (show Kd.FK k52 _ _ (⟨1, t168⟩ : S52) [.int .i64 1, .slice Ao14 t168.length co14] from (k52_mkF _ _ (⟨1, t168⟩ : S52) (Kd.R_reads' (Kd.R_mono (ok' := (fun k_ => some k_ ≠ (.slice Ao12 y165.length co12 : Value).ownBlock ∧ k_ ≠ gb162)) (Kd.R_types (Kd.R_apart' (HO170.out) (Kd.R_typed HO167.out) (by decide)) BK162.out (by decide)) (fun k_ hk => ⟨hk.1.2, hk.2⟩))).2.1 (Kd.R_F (Kd.R_mono (ok' := (fun k_ => some k_ ≠ (.slice Ao12 y165.length co12 : Value).ownBlock ∧ k_ ≠ gb162)) (Kd.R_types (Kd.R_apart' (HO170.out) (Kd.R_typed HO167.out) (by decide)) BK162.out (by decide)) (fun k_ hk => ⟨hk.1.2, hk.2⟩))))) (Reps.none _ _)))
  intro v172 w15 ho16 hb hg_ hnew_
  clear hg_ hnew_
  (first | rw [← Ny171.out] at ho16 | (simp only [Int.reduceToNat] at ho16; rw [← Ny171.out] at ho16))
  have HO173 := Aside0.mk (Kd.N_lower ho16 (below_size (by repeat (first | (with_reducible first | exact HB.out | apply bU | apply bS GE162.out) | exact HB.out))))
  replace HO167 := Aside0.mk (Kd.R_below (by (with_reducible repeat (first | apply Kd.R_alloc | apply Kd.R_drewN | apply Kd.R_drew)); exact HO167.out) hb)
  replace BK162 := bb_ BK162 hb
  replace HB := Aside0.mk (below_step (by repeat (first | (with_reducible first | exact HB.out | apply bU | apply bS GE162.out) | exact HB.out)) hb)
  clear HO170
  clear hb ho16
  refine hK.out _ _ ⟨(blk_cell BK162.out 0).trans rfl, (blk_cell BK162.out 1).trans rfl, (blk_cell BK162.out 2).trans rfl, (blk_cell BK162.out 3).trans rfl, (blk_cell BK162.out 4).trans rfl, (blk_cell BK162.out 5).trans rfl⟩ (fun hHeld => ?_)
  clear hK K
  refine norm_ (a' := ?_) ?_ ?_
  rotate_left
  ·show Act.put _ (some 30) _ = _
   simp only [Act.put, List.setIfInBounds_toArray, List.set_cons_zero, List.set_cons_succ, i64_w, i32_w]
   rfl
  refine py 17 4 HT_ ?_
  refine done_ (done_of HT_.out (by kernel_rfl)) ?_
  obtain ⟨hcz17_0, hcz17_1, hcz17_2, hcz17_3, hcz17_4, hcz17_5, hfz17_0, hfz17_1, hfz17_2, hfz17_3, hfz17_4, hfz17_5⟩ := c6_ BK162
  try go_wp2
  go_loopg [4, 34] k (fun kq v4 v34 w' => ∃ (x4_1 : List (S52)) (x34_1 : Int), v34 = .int .i64 x34_1 ∧ Aside0 (lsa_Encode.l0 kq x4_1 l0_4 (l0_4.length : Int) x34_1 a0_0 a0_1 a0_2 a0_3 l0_4 l0_5 = some (r1, r2)) ∧ Aside0 (kq ≤ k) ∧ Aside0 (Kd.N k52 52 w' w.heap.size (fun k_ => k_ ≠ gb162) v4 x4_1) ∧ Aside0 (w'.heap[gb162]? = some (.cells #[.int .i64 a0_0, .int .i64 a0_1, .int .i64 a0_2, .bool a0_3, (.slice A0_4 l0_4.length c0_4), (.slice A0_5 l0_5.length c0_5)] 25 (0, 0))) ∧ Aside0 (Below w.heap.size w w'))
  case atStart => exact ⟨(y171), (0), (by first | rfl | (simp; done) | (simp [*]; done)), H', ⟨Nat.le_refl _⟩, ⟨by (with_reducible repeat (first | apply Kd.N_alloc | apply Kd.N_drewN | apply Kd.N_drew)); exact Kd.N_mono HO173.out (fun _ hk => hk.2)⟩, ⟨kb_ BK162⟩, ⟨by repeat (first | (with_reducible first | exact HB.out | apply bU | apply bS GE162.out) | exact HB.out)⟩⟩
  case round =>
   clear H'
   (try clear c2); (try clear c3); (try clear hcz17_0); (try clear hcz17_1); (try clear hcz17_2); (try clear hcz17_3); (try clear hcz17_4); (try clear hcz17_5); (try clear hcz7_0); (try clear hcz7_1); (try clear hcz7_2); (try clear hcz7_3); (try clear hcz7_4); (try clear hcz7_5); (try clear hfz17_0); (try clear hfz17_1); (try clear hfz17_2); (try clear hfz17_3); (try clear hfz17_4); (try clear hfz17_5); (try clear hfz7_0); (try clear hfz7_1); (try clear hfz7_2); (try clear hfz7_3); (try clear hfz7_4); (try clear hfz7_5)
   obtain ⟨x4_1, x34_1, rfl, HA, HK1, HO_4, BK162, HB⟩ := hrel
   cases gk with
   | zero => exact absurd HA.out (by simp [lsa_Encode.l0])
   | succ k1 =>
    have H := HA.out
    clear HA
    simp only [lsa_Encode.l0] at H
    by_cases c18 : x34_1 < (l0_4.length : Int)
    ·rw [if_pos c18] at H
     have c18b0 : decide (x34_1 < (l0_4.length : Int)) = true := decide_eq_true c18
     clear c18
     by_cases c19 : 0 ≤ x34_1
     ·rw [if_pos c19] at H
      have c19b0 : decide (0 ≤ x34_1) = true := decide_eq_true c19
      clear c19
      by_cases c20 : x34_1 < (l0_4.length : Int)
      ·rw [if_pos c20] at H
       have c20b0 : decide (x34_1 < (l0_4.length : Int)) = true := decide_eq_true c20
       clear c20
       obtain ⟨y176, hy176⟩ : ∃ y_ : List (S48), y_ = (([(⟨(rd_T43 l0_4 x34_1).f0, 2⟩ : S48), (⟨(rd_T43 l0_4 x34_1).f1, 2⟩ : S48), (⟨(rd_T43 l0_4 x34_1).f2, 2⟩ : S48)] : List (S48))) := ⟨_, rfl⟩
       replace H : ((lsa_value.f k1 y176).bind fun t179 => (if x4_1.length < 4398046511104 then (lsa_Encode.l0 k1 (x4_1 ++ [(⟨2, t179⟩ : S52)]) l0_4 (l0_4.length : Int) (wrap64 (x34_1 + 1)) a0_0 a0_1 a0_2 a0_3 l0_4 l0_5) else (none))) = some (r1, r2) := by first | (rw [hy176]; with_reducible exact H) | (have H2_ := (Option.bind_some _ _).symm.trans H; rw [hy176]; with_reducible exact H2_) | (have H2_ := (Option.bind_some _ _).symm.trans H; with_reducible exact H2_) | with_reducible exact H | (rw [hy176]; exact H) | exact H
       have Ny176 := Aside0.mk hy176
       clear hy176
       replace H := Option.bind_eq_some_iff.mp H
       obtain ⟨t179, A210, H⟩ := H
       replace H : (if x4_1.length < 4398046511104 then (lsa_Encode.l0 k1 (x4_1 ++ [(⟨2, t179⟩ : S52)]) l0_4 (l0_4.length : Int) (wrap64 (x34_1 + 1)) a0_0 a0_1 a0_2 a0_3 l0_4 l0_5) else (none)) = some (r1, r2) := H
       have A21 := Aside0.mk A210
       clear A210
       by_cases c22 : x4_1.length < 4398046511104
       ·rw [if_pos c22] at H
        have LMc22 := Aside0.mk c22
        clear c22
        obtain ⟨y182, hy182⟩ : ∃ y_ : List (S52), y_ = (x4_1 ++ [(⟨2, t179⟩ : S52)]) := ⟨_, rfl⟩
        replace H : (lsa_Encode.l0 k1 y182 l0_4 (l0_4.length : Int) (wrap64 (x34_1 + 1)) a0_0 a0_1 a0_2 a0_3 l0_4 l0_5) = some (r1, r2) := by first | (rw [hy182]; with_reducible exact H) | (have H2_ := (Option.bind_some _ _).symm.trans H; rw [hy182]; with_reducible exact H2_) | (have H2_ := (Option.bind_some _ _).symm.trans H; with_reducible exact H2_) | with_reducible exact H | (rw [hy182]; exact H) | exact H
        have Ny182 := Aside0.mk hy182
        clear hy182
        have H' := Aside0.mk H
        clear H
        have p174 : 0 ≤ (x34_1 : Int) := of_decide_eq_true (by first | (with_reducible assumption) | assumption)
        have q174 : x34_1 < (l0_4.length : Int) := of_decide_eq_true (by first | (with_reducible assumption) | assumption)
        obtain ⟨ad174, e174, hx174_0, hx174_1, hx174_2⟩ := at_T43 HR0_4.out x34_1 p174 q174
        cases e174
        replace hx174_0 := (HB.out.cell (World.block_lt_of_cell? w _ hx174_0)).trans hx174_0
        replace hx174_1 := (HB.out.cell (World.block_lt_of_cell? w _ hx174_1)).trans hx174_1
        replace hx174_2 := (HB.out.cell (World.block_lt_of_cell? w _ hx174_2)).trans hx174_2
        replace p174 := eq_true p174
        replace q174 := eq_true q174
        go_wp2_with (first | ((with_reducible refine gate_dst (N := 6) rfl ?_); refine bx_ 6 #[.int .i64 0, .int .i64 0, .int .i64 0] 43 rfl rfl ?hr ?_; (case hr => go_simp; try rfl); intro gb175 hg w23 hbox hb; have BK175 := Aside0.mk (hbox); have GW175 := Aside0.mk ((by rw [hg]; exact (below_size (by repeat (first | (with_reducible first | exact HB.out | apply bU | apply bS GE162.out) | exact HB.out))) : w.heap.size ≤ gb175)); have GE175 := Aside0.mk ((by rw [hg]; exact (below_size (by repeat (first | (with_reducible first | exact HB.out | apply bU | apply bS GE162.out) | exact HB.out))) : w.heap.size ≤ gb175)); have NB162_175 := nl_ BK162 hg; have NB175_162 := ng_ BK162 hg; replace HO_4 := Aside0.mk (Kd.N_below (Kd.N_elderB (by (with_reducible repeat (first | apply Kd.N_alloc | apply Kd.N_drewN | apply Kd.N_drew)); exact HO_4.out) gb175 (Nat.le_of_eq hg.symm)) hb); replace BK162 := bb_ BK162 hb; replace HB := Aside0.mk (below_step (by repeat (first | (with_reducible first | exact HB.out | apply bU | apply bS GE162.out) | exact HB.out)) hb); clear hb hbox hg; have hnb24 := NB175_162.out; have hnc24 := NB162_175.out; obtain ⟨hcz25_0, hcz25_1, hcz25_2, hfz25_0, hfz25_1, hfz25_2⟩ := c3_ BK175) | ((with_reducible refine gate_dst (N := 48) rfl ?_); refine Kd.R_lit k48 _ 48 ?hg (N := 48) ?hd (xs := ([(⟨(rd_T43 l0_4 x34_1).f0, 2⟩ : S48), (⟨(rd_T43 l0_4 x34_1).f1, 2⟩ : S48), (⟨(rd_T43 l0_4 x34_1).f2, 2⟩ : S48)] : List (S48))) (inner := [.int .i64 ((rd_T43 l0_4 x34_1).f0), .int .i64 2, .int .i64 ((rd_T43 l0_4 x34_1).f1), .int .i64 2, .int .i64 ((rd_T43 l0_4 x34_1).f2), .int .i64 2]) (ok := fun _ => True) (okp := fun _ => True) ?hr ?hp (fun _ hk => hk) trivial (Below.refl _ _) (Nat.le_refl _) (by simp) ?_; (case hd => rfl); (case hg => rfl); (case hr => first | (go_simp; done) | (go_simp; rfl)); (case hp => exact (Reps.c2 (show Kd.M k48 _ _ _ (⟨(rd_T43 l0_4 x34_1).f0, 2⟩ : S48) [.int .i64 ((rd_T43 l0_4 x34_1).f0), .int .i64 2] from (k48_mkM _ _ _ (⟨(rd_T43 l0_4 x34_1).f0, 2⟩ : S48) )) (Reps.c2 (show Kd.M k48 _ _ _ (⟨(rd_T43 l0_4 x34_1).f1, 2⟩ : S48) [.int .i64 ((rd_T43 l0_4 x34_1).f1), .int .i64 2] from (k48_mkM _ _ _ (⟨(rd_T43 l0_4 x34_1).f1, 2⟩ : S48) )) (Reps.c2 (show Kd.M k48 _ _ _ (⟨(rd_T43 l0_4 x34_1).f2, 2⟩ : S48) [.int .i64 ((rd_T43 l0_4 x34_1).f2), .int .i64 2] from (k48_mkM _ _ _ (⟨(rd_T43 l0_4 x34_1).f2, 2⟩ : S48) )) (Reps.none _ _))))); intro v177 w26 ho27 hb hg_ hnew_; clear hg_ hnew_; (first | rw [← Ny176.out] at ho27 | (simp only [Int.reduceToNat] at ho27; rw [← Ny176.out] at ho27)); have HO178 := Aside0.mk (Kd.R_lower ho27 (below_size (by repeat (first | (with_reducible first | exact HB.out | apply bU | apply bS GE162.out | apply bS GE175.out) | exact HB.out)))); replace HO_4 := Aside0.mk (Kd.N_elder' (by (with_reducible repeat (first | apply Kd.N_alloc | apply Kd.N_drewN | apply Kd.N_drew)); exact (Kd.N_mono (Kd.N_far (p := ⟨gb175, 2, none⟩) (Kd.N_far (p := ⟨gb175, 1, none⟩) (Kd.N_far (p := ⟨gb175, 0, none⟩) (Kd.N_mono HO_4.out (fun k_ hk => (⟨hk, hk.2⟩ : _ ∧ k_ ≠ gb175))) (fun _ hk => hk.2) (.int .i64 ((rd_T43 l0_4 x34_1).f0))) (fun _ hk => hk.2) (.int .i64 ((rd_T43 l0_4 x34_1).f1))) (fun _ hk => hk.2) (.int .i64 ((rd_T43 l0_4 x34_1).f2))) (fun _ h_ => h_.1))) (Kd.R_base ho27) hb); replace BK162 := Aside0.mk (blk_below (g := gb162) (o := .cells #[.int .i64 a0_0, .int .i64 a0_1, .int .i64 a0_2, .bool a0_3, .slice (some ad174) l0_4.length c0_4, .slice A0_5 l0_5.length c0_5] 25 (0, 0)) (by (with_reducible repeat (first | refine blk_drewN ?_ _ | refine blk_drew ?_ | refine blk_alloc ?_ _)); refine blk_far ?_ NB162_175.out _; (with_reducible repeat (first | refine blk_drewN ?_ _ | refine blk_drew ?_ | refine blk_alloc ?_ _)); refine blk_far ?_ NB162_175.out _; (with_reducible repeat (first | refine blk_drewN ?_ _ | refine blk_drew ?_ | refine blk_alloc ?_ _)); refine blk_far ?_ NB162_175.out _; (with_reducible repeat (first | refine blk_drewN ?_ _ | refine blk_drew ?_ | refine blk_alloc ?_ _)); exact BK162.out) hb); replace BK175 := Aside0.mk (blk_below (g := gb175) (o := .cells #[.int .i64 ((rd_T43 l0_4 x34_1).f0), .int .i64 ((rd_T43 l0_4 x34_1).f1), .int .i64 ((rd_T43 l0_4 x34_1).f2)] 43 (0, 0)) (by (with_reducible repeat (first | refine blk_drewN ?_ _ | refine blk_drew ?_ | refine blk_alloc ?_ _)); refine blk_put (cs := #[.int .i64 ((rd_T43 l0_4 x34_1).f0), .int .i64 ((rd_T43 l0_4 x34_1).f1), .int .i64 0]) ?_ 2 _ rfl; (with_reducible repeat (first | refine blk_drewN ?_ _ | refine blk_drew ?_ | refine blk_alloc ?_ _)); refine blk_put (cs := #[.int .i64 ((rd_T43 l0_4 x34_1).f0), .int .i64 0, .int .i64 0]) ?_ 1 _ rfl; (with_reducible repeat (first | refine blk_drewN ?_ _ | refine blk_drew ?_ | refine blk_alloc ?_ _)); refine blk_put (cs := #[.int .i64 0, .int .i64 0, .int .i64 0]) ?_ 0 _ rfl; (with_reducible repeat (first | refine blk_drewN ?_ _ | refine blk_drew ?_ | refine blk_alloc ?_ _)); exact BK175.out) hb); replace HB := Aside0.mk (below_step (by repeat (first | (with_reducible first | exact HB.out | apply bU | apply bS GE162.out | apply bS GE175.out) | exact HB.out)) hb); clear hb ho27; obtain ⟨Ao28, co28, eo28⟩ := Kd.R_slice HO178.out; subst eo28) | ((with_reducible refine gate_callee (f := 25) rfl ?_); refine goesL_ (some 49) rfl rfl Try.func25 (by kernel_rfl) rfl #[.slice Ao28 y176.length co28] rfl (by (try simp only [List.map_toArray, List.map_cons, List.map_nil]); first | done | rfl | (simp only [List.length_drop, List.length_take]; rfl)) ?_; (with_reducible refine (lsa_value.calls k1 _ _ y176 t179 _ ?side1 ?side2 A21.out).mono ?_); (case side1 => repeat (first | exact (Kd.R_reads' HO178.out).2.2 | (with_reducible refine Kd.C_alloc ?_ _) | (with_reducible refine Kd.C_drewN ?_ _) | (with_reducible refine Kd.C_drew ?_))); (case side2 => exact (Kd.R_reads' HO178.out).2.1); rintro e w29 ⟨v180, rfl, ho0, hb⟩; refine ⟨_, rfl, ?_⟩; have HO181 := Aside0.mk (Kd.R_lower ho0 (below_size (by repeat (first | (with_reducible first | exact HB.out | apply bU | apply bS GE162.out | apply bS GE175.out) | exact HB.out)))); replace HO_4 := Aside0.mk (Kd.N_elder' (by (with_reducible repeat (first | apply Kd.N_alloc | apply Kd.N_drewN | apply Kd.N_drew)); exact HO_4.out) (Kd.R_base ho0) hb); replace HO178 := Aside0.mk (Kd.R_below (by (with_reducible repeat (first | apply Kd.R_alloc | apply Kd.R_drewN | apply Kd.R_drew)); exact HO178.out) hb); replace BK162 := bb_ BK162 hb; replace BK175 := bb_ BK175 hb; replace HB := Aside0.mk (below_step (by repeat (first | (with_reducible first | exact HB.out | apply bU | apply bS GE162.out | apply bS GE175.out) | exact HB.out)) hb); (try clear hb); (try clear hb2); (try clear hk); (try clear hi); (try clear ho0); obtain ⟨Ao30, co30, eo30⟩ := Kd.R_slice HO181.out; subst eo30) | ((with_reducible refine gate_builtin (b := .append) (xs := #[.tmp 38, .tmp 51]) rfl ?_); at_builtin; refine Kd.N_append k52 (w0 := w) w.heap.size rfl (.tmp 38) (.tmp 51) 53 52 (.agg #[(.int .i64 0), (.slice none 0 0)]) 32 rfl Try.underlying53 info52 rfl (by decide) (by omega) u4 x4_1 (⟨2, t179⟩ : S52) [.int .i64 2, .slice Ao30 t179.length co30] (fun k_ => some k_ ≠ (.slice Ao28 y176.length co28 : Value).ownBlock ∧ k_ ≠ gb162 ∧ k_ ≠ gb175) (fun k_ => ((fun k_ => some k_ ≠ (.slice Ao28 y176.length co28 : Value).ownBlock ∧ k_ ≠ gb162 ∧ k_ ≠ gb175)) k_ ∧ some k_ ≠ (u4 : Value).ownBlock) rfl rfl ?aP (fun _ hk => hk) ?aF ?aO ?aB ?aS ?aL ?_; (case aP => exact (k52_mkF _ _ (⟨2, t179⟩ : S52) (Kd.R_reads' (Kd.R_mono (ok' := (fun k_ => ((fun k_ => some k_ ≠ (.slice Ao28 y176.length co28 : Value).ownBlock ∧ k_ ≠ gb162 ∧ k_ ≠ gb175)) k_ ∧ some k_ ≠ (u4 : Value).ownBlock)) (Kd.R_types (Kd.R_types (Kd.R_apart' (Kd.R_apart' (HO181.out) (Kd.R_typed HO178.out) (by decide)) (Kd.N_typed HO_4.out) (by decide)) BK162.out (by decide)) BK175.out (by decide)) (fun k_ hk => ⟨⟨hk.1.1.1.2, ⟨hk.1.2, hk.2⟩⟩, hk.1.1.2⟩))).2.1 (Kd.R_F (Kd.R_mono (ok' := (fun k_ => ((fun k_ => some k_ ≠ (.slice Ao28 y176.length co28 : Value).ownBlock ∧ k_ ≠ gb162 ∧ k_ ≠ gb175)) k_ ∧ some k_ ≠ (u4 : Value).ownBlock)) (Kd.R_types (Kd.R_types (Kd.R_apart' (Kd.R_apart' (HO181.out) (Kd.R_typed HO178.out) (by decide)) (Kd.N_typed HO_4.out) (by decide)) BK162.out (by decide)) BK175.out (by decide)) (fun k_ hk => ⟨⟨hk.1.1.1.2, ⟨hk.1.2, hk.2⟩⟩, hk.1.1.2⟩))))); (case aB => exact (by repeat (first | (with_reducible first | exact HB.out | apply bU | apply bS GE162.out | apply bS GE175.out) | exact HB.out))); (case aF => exact (fun k_ hk => ⟨Kd.fresh' (Kd.R_lt (by (with_reducible repeat (first | apply Kd.R_alloc | apply Kd.R_drewN | apply Kd.R_drew)); exact HO178.out)) k_ hk, Kd.freshB (g := gb162) (o := .cells #[.int .i64 a0_0, .int .i64 a0_1, .int .i64 a0_2, .bool a0_3, .slice (some ad174) l0_4.length c0_4, .slice A0_5 l0_5.length c0_5] 25 (0, 0)) (kb_ BK162) k_ hk, Kd.freshB (g := gb175) (o := .cells #[.int .i64 ((rd_T43 l0_4 x34_1).f0), .int .i64 ((rd_T43 l0_4 x34_1).f1), .int .i64 ((rd_T43 l0_4 x34_1).f2)] 43 (0, 0)) (kb_ BK175) k_ hk⟩)); (case aO => exact (by (with_reducible repeat (first | apply Kd.N_alloc | apply Kd.N_drewN | apply Kd.N_drew)); exact Kd.N_mono HO_4.out (fun _ hk => ⟨hk.1.2, ⟨hk.1.1.1, hk.1.1.2⟩⟩))); (case aS => exact (below_size (by repeat (first | (with_reducible first | exact HB.out | apply bU | apply bS GE162.out | apply bS GE175.out) | exact HB.out)))); (case aL => have := LMc22.out; omega); intro v183 w31 ho hb hg hat; rw [← Ny182.out] at ho; have HO184 := Aside0.mk (ho); replace BK162 := Aside0.mk (blk_grown (g := gb162) (o := .cells #[.int .i64 a0_0, .int .i64 a0_1, .int .i64 a0_2, .bool a0_3, .slice (some ad174) l0_4.length c0_4, .slice A0_5 l0_5.length c0_5] 25 (0, 0)) (kb_ BK162) hg (Kd.N_ne HO_4.out BK162.out (by decide))); replace BK175 := Aside0.mk (blk_grown (g := gb175) (o := .cells #[.int .i64 ((rd_T43 l0_4 x34_1).f0), .int .i64 ((rd_T43 l0_4 x34_1).f1), .int .i64 ((rd_T43 l0_4 x34_1).f2)] 43 (0, 0)) (kb_ BK175) hg (Kd.N_ne HO_4.out BK175.out (by decide))); replace HO178 := Aside0.mk (Kd.R_over' (by (with_reducible repeat (first | apply Kd.R_alloc | apply Kd.R_drewN | apply Kd.R_drew)); exact HO178.out) (Kd.N_typed (by (with_reducible repeat (first | apply Kd.N_alloc | apply Kd.N_drewN | apply Kd.N_drew)); exact HO_4.out)) (by decide) hg); replace HB := Aside0.mk (hb); clear HO_4 HO181; clear ho hb hg hat))
        go_roundg k1
        case measure => have := HK1.out; omega
        case rel => exact ⟨(y182), (wrap64 (x34_1 + 1)), (by first | rfl | (simp; done) | (simp [*]; done)), H', ⟨by have := HK1.out; omega⟩, ⟨by (with_reducible repeat (first | apply Kd.N_alloc | apply Kd.N_drewN | apply Kd.N_drew)); exact Kd.N_mono HO184.out (fun _ hk => hk.2.1)⟩, ⟨kb_ BK162⟩, ⟨by repeat (first | (with_reducible first | exact HB.out | apply bU | apply bS GE162.out | apply bS GE175.out) | exact HB.out)⟩⟩
       ·rw [if_neg c22] at H
        exact absurd H (by simp)
      ·rw [if_neg c20] at H
       exact absurd H (by simp)
     ·rw [if_neg c19] at H
      exact absurd H (by simp)
    ·rw [if_neg c18] at H
     have c18b0 : decide (x34_1 < (l0_4.length : Int)) = false := decide_eq_false c18
     clear c18
     have H' := Aside0.mk H
     clear H
     obtain ⟨hcz32_0, hcz32_1, hcz32_2, hcz32_3, hcz32_4, hcz32_5, hfz32_0, hfz32_1, hfz32_2, hfz32_3, hfz32_4, hfz32_5⟩ := c6_ BK162
     go_wp2
     go_loopg [4, 57] k1 (fun kq v4 v57 w' => ∃ (x4_2 : List (S52)) (x57_2 : Int), v57 = .int .i64 x57_2 ∧ Aside0 (lsa_Encode.l1 kq x4_2 l0_5 (l0_5.length : Int) x57_2 = some (r1, r2)) ∧ Aside0 (kq ≤ k1) ∧ Aside0 (Kd.N k52 52 w' w.heap.size (fun k_ => k_ ≠ gb162) v4 x4_2) ∧ Aside0 (w'.heap[gb162]? = some (.cells #[.int .i64 a0_0, .int .i64 a0_1, .int .i64 a0_2, .bool a0_3, (.slice A0_4 l0_4.length c0_4), (.slice A0_5 l0_5.length c0_5)] 25 (0, 0))) ∧ Aside0 (Below w.heap.size w w'))
     case atStart => exact ⟨(x4_1), (0), (by first | rfl | (simp; done) | (simp [*]; done)), H', ⟨Nat.le_refl _⟩, ⟨by (with_reducible repeat (first | apply Kd.N_alloc | apply Kd.N_drewN | apply Kd.N_drew)); exact HO_4.out⟩, ⟨kb_ BK162⟩, ⟨by repeat (first | (with_reducible first | exact HB.out | apply bU | apply bS GE162.out) | exact HB.out)⟩⟩
     case round =>
      clear H'
      (try clear c2); (try clear c3); (try clear c18); (try clear c18b0); (try clear hcz17_0); (try clear hcz17_1); (try clear hcz17_2); (try clear hcz17_3); (try clear hcz17_4); (try clear hcz17_5); (try clear hcz32_0); (try clear hcz32_1); (try clear hcz32_2); (try clear hcz32_3); (try clear hcz32_4); (try clear hcz32_5); (try clear hcz7_0); (try clear hcz7_1); (try clear hcz7_2); (try clear hcz7_3); (try clear hcz7_4); (try clear hcz7_5); (try clear hfz17_0); (try clear hfz17_1); (try clear hfz17_2); (try clear hfz17_3); (try clear hfz17_4); (try clear hfz17_5); (try clear hfz32_0); (try clear hfz32_1); (try clear hfz32_2); (try clear hfz32_3); (try clear hfz32_4); (try clear hfz32_5); (try clear hfz7_0); (try clear hfz7_1); (try clear hfz7_2); (try clear hfz7_3); (try clear hfz7_4); (try clear hfz7_5)
      obtain ⟨x4_2, x57_2, rfl, HA, HK2, HO_4, BK162, HB⟩ := hrel
      cases gk with
      | zero => exact absurd HA.out (by simp [lsa_Encode.l1])
      | succ k2 =>
       have H := HA.out
       clear HA
       simp only [lsa_Encode.l1] at H
       by_cases c33 : x57_2 < (l0_5.length : Int)
       ·rw [if_pos c33] at H
        have c33b0 : decide (x57_2 < (l0_5.length : Int)) = true := decide_eq_true c33
        clear c33
        by_cases c34 : 0 ≤ x57_2
        ·rw [if_pos c34] at H
         have c34b0 : decide (0 ≤ x57_2) = true := decide_eq_true c34
         clear c34
         by_cases c35 : x57_2 < (l0_5.length : Int)
         ·rw [if_pos c35] at H
          have c35b0 : decide (x57_2 < (l0_5.length : Int)) = true := decide_eq_true c35
          clear c35
          obtain ⟨y187, hy187⟩ : ∃ y_ : List (S48), y_ = (([(⟨wrap64 ((rd_T56 l0_5 x57_2).f0), 4⟩ : S48), (⟨(rd_T56 l0_5 x57_2).f1, 1⟩ : S48)] : List (S48))) := ⟨_, rfl⟩
          replace H : ((lsa_value.f k2 y187).bind fun t190 => (if x4_2.length < 4398046511104 then (lsa_Encode.l1 k2 (x4_2 ++ [(⟨3, t190⟩ : S52)]) l0_5 (l0_5.length : Int) (wrap64 (x57_2 + 1))) else (none))) = some (r1, r2) := by first | (rw [hy187]; with_reducible exact H) | (have H2_ := (Option.bind_some _ _).symm.trans H; rw [hy187]; with_reducible exact H2_) | (have H2_ := (Option.bind_some _ _).symm.trans H; with_reducible exact H2_) | with_reducible exact H | (rw [hy187]; exact H) | exact H
          have Ny187 := Aside0.mk hy187
          clear hy187
          replace H := Option.bind_eq_some_iff.mp H
          obtain ⟨t190, A360, H⟩ := H
          replace H : (if x4_2.length < 4398046511104 then (lsa_Encode.l1 k2 (x4_2 ++ [(⟨3, t190⟩ : S52)]) l0_5 (l0_5.length : Int) (wrap64 (x57_2 + 1))) else (none)) = some (r1, r2) := H
          have A36 := Aside0.mk A360
          clear A360
          by_cases c37 : x4_2.length < 4398046511104
          ·rw [if_pos c37] at H
           have LMc37 := Aside0.mk c37
           clear c37
           obtain ⟨y193, hy193⟩ : ∃ y_ : List (S52), y_ = (x4_2 ++ [(⟨3, t190⟩ : S52)]) := ⟨_, rfl⟩
           replace H : (lsa_Encode.l1 k2 y193 l0_5 (l0_5.length : Int) (wrap64 (x57_2 + 1))) = some (r1, r2) := by first | (rw [hy193]; with_reducible exact H) | (have H2_ := (Option.bind_some _ _).symm.trans H; rw [hy193]; with_reducible exact H2_) | (have H2_ := (Option.bind_some _ _).symm.trans H; with_reducible exact H2_) | with_reducible exact H | (rw [hy193]; exact H) | exact H
           have Ny193 := Aside0.mk hy193
           clear hy193
           have H' := Aside0.mk H
           clear H
           have p185 : 0 ≤ (x57_2 : Int) := of_decide_eq_true (by first | (with_reducible assumption) | assumption)
           have q185 : x57_2 < (l0_5.length : Int) := of_decide_eq_true (by first | (with_reducible assumption) | assumption)
           obtain ⟨ad185, e185, hx185_0, hx185_1⟩ := at_T56 HR0_5.out x57_2 p185 q185
           cases e185
           replace hx185_0 := (HB.out.cell (World.block_lt_of_cell? w _ hx185_0)).trans hx185_0
           replace hx185_1 := (HB.out.cell (World.block_lt_of_cell? w _ hx185_1)).trans hx185_1
           replace p185 := eq_true p185
           replace q185 := eq_true q185
           go_wp2_with (first | ((with_reducible refine gate_dst (N := 8) rfl ?_); refine bx_ 8 #[.int .u32 0, .int .i64 0] 56 rfl rfl ?hr ?_; (case hr => go_simp; try rfl); intro gb186 hg w38 hbox hb; have BK186 := Aside0.mk (hbox); have GW186 := Aside0.mk ((by rw [hg]; exact (below_size (by repeat (first | (with_reducible first | exact HB.out | apply bU | apply bS GE162.out) | exact HB.out))) : w.heap.size ≤ gb186)); have GE186 := Aside0.mk ((by rw [hg]; exact (below_size (by repeat (first | (with_reducible first | exact HB.out | apply bU | apply bS GE162.out) | exact HB.out))) : w.heap.size ≤ gb186)); have NB162_186 := nl_ BK162 hg; have NB186_162 := ng_ BK162 hg; replace HO_4 := Aside0.mk (Kd.N_below (Kd.N_elderB (by (with_reducible repeat (first | apply Kd.N_alloc | apply Kd.N_drewN | apply Kd.N_drew)); exact HO_4.out) gb186 (Nat.le_of_eq hg.symm)) hb); replace BK162 := bb_ BK162 hb; replace HB := Aside0.mk (below_step (by repeat (first | (with_reducible first | exact HB.out | apply bU | apply bS GE162.out) | exact HB.out)) hb); clear hb hbox hg; have hnb39 := NB186_162.out; have hnc39 := NB162_186.out; obtain ⟨hcz40_0, hcz40_1, hfz40_0, hfz40_1⟩ := c2_ BK186) | ((with_reducible refine gate_dst (N := 69) rfl ?_); refine Kd.R_lit k48 _ 48 ?hg (N := 69) ?hd (xs := ([(⟨wrap64 ((rd_T56 l0_5 x57_2).f0), 4⟩ : S48), (⟨(rd_T56 l0_5 x57_2).f1, 1⟩ : S48)] : List (S48))) (inner := [.int .i64 (wrap64 ((rd_T56 l0_5 x57_2).f0)), .int .i64 4, .int .i64 ((rd_T56 l0_5 x57_2).f1), .int .i64 1]) (ok := fun _ => True) (okp := fun _ => True) ?hr ?hp (fun _ hk => hk) trivial (Below.refl _ _) (Nat.le_refl _) (by simp) ?_; (case hd => rfl); (case hg => rfl); (case hr => first | (go_simp; done) | (go_simp; rfl)); (case hp => exact (Reps.c2 (show Kd.M k48 _ _ _ (⟨wrap64 ((rd_T56 l0_5 x57_2).f0), 4⟩ : S48) [.int .i64 (wrap64 ((rd_T56 l0_5 x57_2).f0)), .int .i64 4] from (k48_mkM _ _ _ (⟨wrap64 ((rd_T56 l0_5 x57_2).f0), 4⟩ : S48) )) (Reps.c2 (show Kd.M k48 _ _ _ (⟨(rd_T56 l0_5 x57_2).f1, 1⟩ : S48) [.int .i64 ((rd_T56 l0_5 x57_2).f1), .int .i64 1] from (k48_mkM _ _ _ (⟨(rd_T56 l0_5 x57_2).f1, 1⟩ : S48) )) (Reps.none _ _)))); intro v188 w41 ho42 hb hg_ hnew_; clear hg_ hnew_; (first | rw [← Ny187.out] at ho42 | (simp only [Int.reduceToNat] at ho42; rw [← Ny187.out] at ho42)); have HO189 := Aside0.mk (Kd.R_lower ho42 (below_size (by repeat (first | (with_reducible first | exact HB.out | apply bU | apply bS GE162.out | apply bS GE186.out) | exact HB.out)))); replace HO_4 := Aside0.mk (Kd.N_elder' (by (with_reducible repeat (first | apply Kd.N_alloc | apply Kd.N_drewN | apply Kd.N_drew)); exact (Kd.N_mono (Kd.N_far (p := ⟨gb186, 1, none⟩) (Kd.N_far (p := ⟨gb186, 0, none⟩) (Kd.N_mono HO_4.out (fun k_ hk => (⟨hk, hk.2⟩ : _ ∧ k_ ≠ gb186))) (fun _ hk => hk.2) (.int .u32 ((rd_T56 l0_5 x57_2).f0))) (fun _ hk => hk.2) (.int .i64 ((rd_T56 l0_5 x57_2).f1))) (fun _ h_ => h_.1))) (Kd.R_base ho42) hb); replace BK162 := Aside0.mk (blk_below (g := gb162) (o := .cells #[.int .i64 a0_0, .int .i64 a0_1, .int .i64 a0_2, .bool a0_3, .slice A0_4 l0_4.length c0_4, .slice (some ad185) l0_5.length c0_5] 25 (0, 0)) (by (with_reducible repeat (first | refine blk_drewN ?_ _ | refine blk_drew ?_ | refine blk_alloc ?_ _)); refine blk_far ?_ NB162_186.out _; (with_reducible repeat (first | refine blk_drewN ?_ _ | refine blk_drew ?_ | refine blk_alloc ?_ _)); refine blk_far ?_ NB162_186.out _; (with_reducible repeat (first | refine blk_drewN ?_ _ | refine blk_drew ?_ | refine blk_alloc ?_ _)); exact BK162.out) hb); replace BK186 := Aside0.mk (blk_below (g := gb186) (o := .cells #[.int .u32 ((rd_T56 l0_5 x57_2).f0), .int .i64 ((rd_T56 l0_5 x57_2).f1)] 56 (0, 0)) (by (with_reducible repeat (first | refine blk_drewN ?_ _ | refine blk_drew ?_ | refine blk_alloc ?_ _)); refine blk_put (cs := #[.int .u32 ((rd_T56 l0_5 x57_2).f0), .int .i64 0]) ?_ 1 _ rfl; (with_reducible repeat (first | refine blk_drewN ?_ _ | refine blk_drew ?_ | refine blk_alloc ?_ _)); refine blk_put (cs := #[.int .u32 0, .int .i64 0]) ?_ 0 _ rfl; (with_reducible repeat (first | refine blk_drewN ?_ _ | refine blk_drew ?_ | refine blk_alloc ?_ _)); exact BK186.out) hb); replace HB := Aside0.mk (below_step (by repeat (first | (with_reducible first | exact HB.out | apply bU | apply bS GE162.out | apply bS GE186.out) | exact HB.out)) hb); clear hb ho42; obtain ⟨Ao43, co43, eo43⟩ := Kd.R_slice HO189.out; subst eo43) | ((with_reducible refine gate_callee (f := 25) rfl ?_); refine goesL_ (some 70) rfl rfl Try.func25 (by kernel_rfl) rfl #[.slice Ao43 y187.length co43] rfl (by (try simp only [List.map_toArray, List.map_cons, List.map_nil]); first | done | rfl | (simp only [List.length_drop, List.length_take]; rfl)) ?_; (with_reducible refine (lsa_value.calls k2 _ _ y187 t190 _ ?side1 ?side2 A36.out).mono ?_); (case side1 => repeat (first | exact (Kd.R_reads' HO189.out).2.2 | (with_reducible refine Kd.C_alloc ?_ _) | (with_reducible refine Kd.C_drewN ?_ _) | (with_reducible refine Kd.C_drew ?_))); (case side2 => exact (Kd.R_reads' HO189.out).2.1); rintro e w44 ⟨v191, rfl, ho0, hb⟩; refine ⟨_, rfl, ?_⟩; have HO192 := Aside0.mk (Kd.R_lower ho0 (below_size (by repeat (first | (with_reducible first | exact HB.out | apply bU | apply bS GE162.out | apply bS GE186.out) | exact HB.out)))); replace HO_4 := Aside0.mk (Kd.N_elder' (by (with_reducible repeat (first | apply Kd.N_alloc | apply Kd.N_drewN | apply Kd.N_drew)); exact HO_4.out) (Kd.R_base ho0) hb); replace HO189 := Aside0.mk (Kd.R_below (by (with_reducible repeat (first | apply Kd.R_alloc | apply Kd.R_drewN | apply Kd.R_drew)); exact HO189.out) hb); replace BK162 := bb_ BK162 hb; replace BK186 := bb_ BK186 hb; replace HB := Aside0.mk (below_step (by repeat (first | (with_reducible first | exact HB.out | apply bU | apply bS GE162.out | apply bS GE186.out) | exact HB.out)) hb); (try clear hb); (try clear hb2); (try clear hk); (try clear hi); (try clear ho0); obtain ⟨Ao45, co45, eo45⟩ := Kd.R_slice HO192.out; subst eo45) | ((with_reducible refine gate_builtin (b := .append) (xs := #[.tmp 61, .tmp 72]) rfl ?_); at_builtin; refine Kd.N_append k52 (w0 := w) w.heap.size rfl (.tmp 61) (.tmp 72) 53 52 (.agg #[(.int .i64 0), (.slice none 0 0)]) 32 rfl Try.underlying53 info52 rfl (by decide) (by omega) u4 x4_2 (⟨3, t190⟩ : S52) [.int .i64 3, .slice Ao45 t190.length co45] (fun k_ => some k_ ≠ (.slice Ao43 y187.length co43 : Value).ownBlock ∧ k_ ≠ gb162 ∧ k_ ≠ gb186) (fun k_ => ((fun k_ => some k_ ≠ (.slice Ao43 y187.length co43 : Value).ownBlock ∧ k_ ≠ gb162 ∧ k_ ≠ gb186)) k_ ∧ some k_ ≠ (u4 : Value).ownBlock) rfl rfl ?aP (fun _ hk => hk) ?aF ?aO ?aB ?aS ?aL ?_; (case aP => exact (k52_mkF _ _ (⟨3, t190⟩ : S52) (Kd.R_reads' (Kd.R_mono (ok' := (fun k_ => ((fun k_ => some k_ ≠ (.slice Ao43 y187.length co43 : Value).ownBlock ∧ k_ ≠ gb162 ∧ k_ ≠ gb186)) k_ ∧ some k_ ≠ (u4 : Value).ownBlock)) (Kd.R_types (Kd.R_types (Kd.R_apart' (Kd.R_apart' (HO192.out) (Kd.R_typed HO189.out) (by decide)) (Kd.N_typed HO_4.out) (by decide)) BK162.out (by decide)) BK186.out (by decide)) (fun k_ hk => ⟨⟨hk.1.1.1.2, ⟨hk.1.2, hk.2⟩⟩, hk.1.1.2⟩))).2.1 (Kd.R_F (Kd.R_mono (ok' := (fun k_ => ((fun k_ => some k_ ≠ (.slice Ao43 y187.length co43 : Value).ownBlock ∧ k_ ≠ gb162 ∧ k_ ≠ gb186)) k_ ∧ some k_ ≠ (u4 : Value).ownBlock)) (Kd.R_types (Kd.R_types (Kd.R_apart' (Kd.R_apart' (HO192.out) (Kd.R_typed HO189.out) (by decide)) (Kd.N_typed HO_4.out) (by decide)) BK162.out (by decide)) BK186.out (by decide)) (fun k_ hk => ⟨⟨hk.1.1.1.2, ⟨hk.1.2, hk.2⟩⟩, hk.1.1.2⟩))))); (case aB => exact (by repeat (first | (with_reducible first | exact HB.out | apply bU | apply bS GE162.out | apply bS GE186.out) | exact HB.out))); (case aF => exact (fun k_ hk => ⟨Kd.fresh' (Kd.R_lt (by (with_reducible repeat (first | apply Kd.R_alloc | apply Kd.R_drewN | apply Kd.R_drew)); exact HO189.out)) k_ hk, Kd.freshB (g := gb162) (o := .cells #[.int .i64 a0_0, .int .i64 a0_1, .int .i64 a0_2, .bool a0_3, .slice A0_4 l0_4.length c0_4, .slice (some ad185) l0_5.length c0_5] 25 (0, 0)) (kb_ BK162) k_ hk, Kd.freshB (g := gb186) (o := .cells #[.int .u32 ((rd_T56 l0_5 x57_2).f0), .int .i64 ((rd_T56 l0_5 x57_2).f1)] 56 (0, 0)) (kb_ BK186) k_ hk⟩)); (case aO => exact (by (with_reducible repeat (first | apply Kd.N_alloc | apply Kd.N_drewN | apply Kd.N_drew)); exact Kd.N_mono HO_4.out (fun _ hk => ⟨hk.1.2, ⟨hk.1.1.1, hk.1.1.2⟩⟩))); (case aS => exact (below_size (by repeat (first | (with_reducible first | exact HB.out | apply bU | apply bS GE162.out | apply bS GE186.out) | exact HB.out)))); (case aL => have := LMc37.out; omega); intro v194 w46 ho hb hg hat; rw [← Ny193.out] at ho; have HO195 := Aside0.mk (ho); replace BK162 := Aside0.mk (blk_grown (g := gb162) (o := .cells #[.int .i64 a0_0, .int .i64 a0_1, .int .i64 a0_2, .bool a0_3, .slice A0_4 l0_4.length c0_4, .slice (some ad185) l0_5.length c0_5] 25 (0, 0)) (kb_ BK162) hg (Kd.N_ne HO_4.out BK162.out (by decide))); replace BK186 := Aside0.mk (blk_grown (g := gb186) (o := .cells #[.int .u32 ((rd_T56 l0_5 x57_2).f0), .int .i64 ((rd_T56 l0_5 x57_2).f1)] 56 (0, 0)) (kb_ BK186) hg (Kd.N_ne HO_4.out BK186.out (by decide))); replace HO189 := Aside0.mk (Kd.R_over' (by (with_reducible repeat (first | apply Kd.R_alloc | apply Kd.R_drewN | apply Kd.R_drew)); exact HO189.out) (Kd.N_typed (by (with_reducible repeat (first | apply Kd.N_alloc | apply Kd.N_drewN | apply Kd.N_drew)); exact HO_4.out)) (by decide) hg); replace HB := Aside0.mk (hb); clear HO_4 HO192; clear ho hb hg hat))
           go_roundg k2
           case measure => have := HK1.out; have := HK2.out; omega
           case rel => exact ⟨(y193), (wrap64 (x57_2 + 1)), (by first | rfl | (simp; done) | (simp [*]; done)), H', ⟨by have := HK1.out; have := HK2.out; omega⟩, ⟨by (with_reducible repeat (first | apply Kd.N_alloc | apply Kd.N_drewN | apply Kd.N_drew)); exact Kd.N_mono HO195.out (fun _ hk => hk.2.1)⟩, ⟨kb_ BK162⟩, ⟨by repeat (first | (with_reducible first | exact HB.out | apply bU | apply bS GE162.out | apply bS GE186.out) | exact HB.out)⟩⟩
          ·rw [if_neg c37] at H
           exact absurd H (by simp)
         ·rw [if_neg c35] at H
          exact absurd H (by simp)
        ·rw [if_neg c34] at H
         exact absurd H (by simp)
       ·rw [if_neg c33] at H
        have c33b0 : decide (x57_2 < (l0_5.length : Int)) = false := decide_eq_false c33
        clear c33
        by_cases c47 : 2 ≤ 281474976710656
        ·rw [if_pos c47] at H
         have c47b0 := eq_true c47
         have c47b1 : decide (2 ≤ 281474976710656) = true := decide_eq_true c47
         clear c47
         obtain ⟨y196, hy196⟩ : ∃ y_ : List Int, y_ = (List.replicate 2 0) := ⟨_, rfl⟩
         replace H : (if x4_2.length < 4398046511104 then ((codec_Encode.f k2 (x4_2 ++ [(⟨4, y196⟩ : S52)])).bind fun bt202 => (if bt202.2 = 0 then ((fletcher_Seal.f k2 bt202.1 (wrap64 ((bt202.1.length : Int) - 2))).bind fun bt206 => (some (bt206.1, bt206.2))) else (some (([] : List Int), bt202.2)))) else (none)) = some (r1, r2) := by first | (rw [hy196]; with_reducible exact H) | (have H2_ := (Option.bind_some _ _).symm.trans H; rw [hy196]; with_reducible exact H2_) | (have H2_ := (Option.bind_some _ _).symm.trans H; with_reducible exact H2_) | with_reducible exact H | (rw [hy196]; exact H) | exact H
         have Ny196 := Aside0.mk hy196
         clear hy196
         by_cases c48 : x4_2.length < 4398046511104
         ·rw [if_pos c48] at H
          have LMc48 := Aside0.mk c48
          clear c48
          obtain ⟨y199, hy199⟩ : ∃ y_ : List (S52), y_ = (x4_2 ++ [(⟨4, y196⟩ : S52)]) := ⟨_, rfl⟩
          replace H : ((codec_Encode.f k2 y199).bind fun bt202 => (if bt202.2 = 0 then ((fletcher_Seal.f k2 bt202.1 (wrap64 ((bt202.1.length : Int) - 2))).bind fun bt206 => (some (bt206.1, bt206.2))) else (some (([] : List Int), bt202.2)))) = some (r1, r2) := by first | (rw [hy199]; with_reducible exact H) | (have H2_ := (Option.bind_some _ _).symm.trans H; rw [hy199]; with_reducible exact H2_) | (have H2_ := (Option.bind_some _ _).symm.trans H; with_reducible exact H2_) | with_reducible exact H | (rw [hy199]; exact H) | exact H
          have Ny199 := Aside0.mk hy199
          clear hy199
          replace H := Option.bind_eq_some_iff.mp H
          obtain ⟨⟨t202, t203⟩, A490, H⟩ := H
          replace H : (if t203 = 0 then ((fletcher_Seal.f k2 t202 (wrap64 ((t202.length : Int) - 2))).bind fun bt206 => (some (bt206.1, bt206.2))) else (some (([] : List Int), t203))) = some (r1, r2) := H
          have A49 := Aside0.mk A490
          clear A490
          by_cases c50 : t203 = 0
          ·rw [if_pos c50] at H
           have c50b0 : (t203 == 0) = true := beq_iff_eq.mpr c50
           have c50b1 : (t203 != 0) = false := bne_eq_false_iff_eq.mpr c50
           clear c50
           replace H := Option.bind_eq_some_iff.mp H
           obtain ⟨⟨t206, t207⟩, A510, H⟩ := H
           replace H : (some (t206, t207)) = some (r1, r2) := H
           have A51 := Aside0.mk A510
           clear A510
           simp only [Option.some.injEq, Prod.mk.injEq] at H
           obtain ⟨rfl, rfl⟩ := H
           go_wp2_with (first | ((with_reducible refine gate_dst (N := 76) rfl ?_); refine Kd.R_make (Kd.int .u8) _ 5 rfl (N := 76) rfl 28 _ _ rfl 2 rfl rfl Try.underlying28 (.int .u8 0) 1 info5 rfl (by decide) (by omega) 0 (ok := fun _ => True) (okp := fun _ => True) rfl (fun _ hk => hk) trivial (by omega) (by omega) (Below.refl _ _) (Nat.le_refl _) ?_; intro v197 w52 ho53 hb hg_ hnew_; clear hg_ hnew_; (first | rw [← Ny196.out] at ho53 | (simp only [Int.reduceToNat] at ho53; rw [← Ny196.out] at ho53)); have HO198 := Aside0.mk (Kd.R_lower ho53 (below_size (by repeat (first | (with_reducible first | exact HB.out | apply bU | apply bS GE162.out) | exact HB.out)))); replace HO_4 := Aside0.mk (Kd.N_elder' (by (with_reducible repeat (first | apply Kd.N_alloc | apply Kd.N_drewN | apply Kd.N_drew)); exact HO_4.out) (Kd.R_base ho53) hb); replace BK162 := bb_ BK162 hb; replace HB := Aside0.mk (below_step (by repeat (first | (with_reducible first | exact HB.out | apply bU | apply bS GE162.out) | exact HB.out)) hb); clear hb ho53; obtain ⟨Ao54, co54, eo54⟩ := Kd.R_slice HO198.out; subst eo54) | ((with_reducible refine gate_builtin (b := .append) (xs := #[.tmp 75, .tmp 78]) rfl ?_); at_builtin; refine Kd.N_append k52 (w0 := w) w.heap.size rfl (.tmp 75) (.tmp 78) 53 52 (.agg #[(.int .i64 0), (.slice none 0 0)]) 32 rfl Try.underlying53 info52 rfl (by decide) (by omega) u4 x4_2 (⟨4, y196⟩ : S52) [.int .i64 4, .slice Ao54 y196.length co54] (fun k_ => k_ ≠ gb162) (fun k_ => ((fun k_ => k_ ≠ gb162)) k_ ∧ some k_ ≠ (u4 : Value).ownBlock) rfl rfl ?aP (fun _ hk => hk) ?aF ?aO ?aB ?aS ?aL ?_; (case aP => exact (k52_mkF _ _ (⟨4, y196⟩ : S52) (Kd.R_reads' (Kd.R_mono (ok' := (fun k_ => ((fun k_ => k_ ≠ gb162)) k_ ∧ some k_ ≠ (u4 : Value).ownBlock)) (Kd.R_types (Kd.R_apart' (HO198.out) (Kd.N_typed HO_4.out) (by decide)) BK162.out (by decide)) (fun k_ hk => ⟨hk.2, hk.1.2⟩))).2.1 (Kd.R_F (Kd.R_mono (ok' := (fun k_ => ((fun k_ => k_ ≠ gb162)) k_ ∧ some k_ ≠ (u4 : Value).ownBlock)) (Kd.R_types (Kd.R_apart' (HO198.out) (Kd.N_typed HO_4.out) (by decide)) BK162.out (by decide)) (fun k_ hk => ⟨hk.2, hk.1.2⟩))))); (case aB => exact (by repeat (first | (with_reducible first | exact HB.out | apply bU | apply bS GE162.out) | exact HB.out))); (case aF => exact (fun k_ hk => Kd.freshB (g := gb162) (o := .cells #[.int .i64 a0_0, .int .i64 a0_1, .int .i64 a0_2, .bool a0_3, .slice A0_4 l0_4.length c0_4, .slice A0_5 l0_5.length c0_5] 25 (0, 0)) (kb_ BK162) k_ hk)); (case aO => exact (by (with_reducible repeat (first | apply Kd.N_alloc | apply Kd.N_drewN | apply Kd.N_drew)); exact Kd.N_mono HO_4.out (fun _ hk => hk.1))); (case aS => exact (below_size (by repeat (first | (with_reducible first | exact HB.out | apply bU | apply bS GE162.out) | exact HB.out)))); (case aL => have := LMc48.out; omega); intro v200 w55 ho hb hg hat; rw [← Ny199.out] at ho; have HO201 := Aside0.mk (ho); replace BK162 := Aside0.mk (blk_grown (g := gb162) (o := .cells #[.int .i64 a0_0, .int .i64 a0_1, .int .i64 a0_2, .bool a0_3, .slice A0_4 l0_4.length c0_4, .slice A0_5 l0_5.length c0_5] 25 (0, 0)) (kb_ BK162) hg (Kd.N_ne HO_4.out BK162.out (by decide))); replace HB := Aside0.mk (hb); clear HO_4 HO198; clear ho hb hg hat; obtain ⟨Ao56, co56, eo56⟩ := Kd.N_slice HO201.out; subst eo56) | ((with_reducible refine gate_callee (f := 27) rfl ?_); refine goesL_ (some 82) rfl rfl Try.func27 (by kernel_rfl) rfl #[.slice Ao56 y199.length co56] rfl (by (try simp only [List.map_toArray, List.map_cons, List.map_nil]); first | done | rfl | (simp only [List.length_drop, List.length_take]; rfl)) ?_; (with_reducible refine (codec_Encode.calls k2 _ _ y199 t202 t203 _ ?side1 ?side2 A49.out).mono ?_); (case side1 => repeat (first | exact (Kd.N_reads' HO201.out).2.2 | (with_reducible refine Kd.C_alloc ?_ _) | (with_reducible refine Kd.C_drewN ?_ _) | (with_reducible refine Kd.C_drew ?_))); (case side2 => exact (Kd.N_reads' HO201.out).2.1); rintro e w57 ⟨v204, rfl, ho0, hb⟩; refine ⟨_, rfl, ?_⟩; have HO205 := Aside0.mk (Kd.R_lower ho0 (below_size (by repeat (first | (with_reducible first | exact HB.out | apply bU | apply bS GE162.out) | exact HB.out)))); replace HO201 := Aside0.mk (Kd.N_elder' (by (with_reducible repeat (first | apply Kd.N_alloc | apply Kd.N_drewN | apply Kd.N_drew)); exact HO201.out) (Kd.R_base ho0) hb); replace BK162 := bb_ BK162 hb; replace HB := Aside0.mk (below_step (by repeat (first | (with_reducible first | exact HB.out | apply bU | apply bS GE162.out) | exact HB.out)) hb); (try clear hb); (try clear hb2); (try clear hk); (try clear hi); (try clear ho0); obtain ⟨Ao58, co58, eo58⟩ := Kd.R_slice HO205.out; subst eo58) | ((with_reducible refine gate_callee (f := 28) rfl ?_); refine goesL_ (some 92) rfl rfl Try.func28 (by kernel_rfl) rfl #[.slice Ao58 t202.length co58, .int .i64 (wrap64 ((t202.length : Int) - 2))] rfl (by (try simp only [List.map_toArray, List.map_cons, List.map_nil]); first | done | rfl | (simp only [List.length_drop, List.length_take]; rfl)) ?_; (with_reducible refine (fletcher_Seal.calls k2 _ _ t202 (wrap64 ((t202.length : Int) - 2)) t206 t207 _ ?side1 ?side2 A51.out).mono ?_); (case side1 => repeat (first | exact (Kd.R_reads' HO205.out).2.2 | (with_reducible refine Kd.C_alloc ?_ _) | (with_reducible refine Kd.C_drewN ?_ _) | (with_reducible refine Kd.C_drew ?_))); (case side2 => exact (Kd.R_reads' HO205.out).2.1); rintro e w59 ⟨v208, rfl, ho0, hb⟩; refine ⟨_, rfl, ?_⟩; have HO209 := Aside0.mk (Kd.R_lower (Kd.R_new' ho0 (Kd.R_lt (by (with_reducible repeat (first | apply Kd.R_alloc | apply Kd.R_drewN | apply Kd.R_drew)); exact HO205.out))) (below_size (by repeat (first | (with_reducible first | exact HB.out | apply bU | apply bS GE162.out) | exact HB.out)))); replace HO201 := Aside0.mk (Kd.N_elder' (by (with_reducible repeat (first | apply Kd.N_alloc | apply Kd.N_drewN | apply Kd.N_drew)); exact HO201.out) (Kd.R_base ho0) hb); replace HO205 := Aside0.mk (Kd.R_elder' (by (with_reducible repeat (first | apply Kd.R_alloc | apply Kd.R_drewN | apply Kd.R_drew)); exact HO205.out) (Kd.R_base ho0) hb); replace BK162 := bb_ BK162 hb; replace HB := Aside0.mk (below_step (by repeat (first | (with_reducible first | exact HB.out | apply bU | apply bS GE162.out) | exact HB.out)) hb); (try clear hb); (try clear hb2); (try clear hk); (try clear hi); (try clear ho0)))
           go_ret2
           exact ⟨_, by first | rfl | (simp [errW_none, errW_some] <;> rfl) | (simp [*, errW_none, errW_some] <;> rfl), by (with_reducible repeat (first | apply Kd.R_alloc | apply Kd.R_drewN | apply Kd.R_drew)); exact Kd.R_mono HO209.out (fun _ hk => trivial), by repeat (first | (with_reducible first | exact HB.out | apply bU | apply bS GE162.out) | exact HB.out)⟩
          ·rw [if_neg c50] at H
           have c50b0 : (t203 == 0) = false := beq_eq_false_iff_ne.mpr c50
           have c50b1 : (t203 != 0) = true := bne_iff_ne.mpr c50
           simp only [Option.some.injEq, Prod.mk.injEq] at H
           obtain ⟨rfl, rfl⟩ := H
           go_wp2_with (first | ((with_reducible refine gate_dst (N := 76) rfl ?_); refine Kd.R_make (Kd.int .u8) _ 5 rfl (N := 76) rfl 28 _ _ rfl 2 rfl rfl Try.underlying28 (.int .u8 0) 1 info5 rfl (by decide) (by omega) 0 (ok := fun _ => True) (okp := fun _ => True) rfl (fun _ hk => hk) trivial (by omega) (by omega) (Below.refl _ _) (Nat.le_refl _) ?_; intro v197 w60 ho61 hb hg_ hnew_; clear hg_ hnew_; (first | rw [← Ny196.out] at ho61 | (simp only [Int.reduceToNat] at ho61; rw [← Ny196.out] at ho61)); have HO198 := Aside0.mk (Kd.R_lower ho61 (below_size (by repeat (first | (with_reducible first | exact HB.out | apply bU | apply bS GE162.out) | exact HB.out)))); replace HO_4 := Aside0.mk (Kd.N_elder' (by (with_reducible repeat (first | apply Kd.N_alloc | apply Kd.N_drewN | apply Kd.N_drew)); exact HO_4.out) (Kd.R_base ho61) hb); replace BK162 := bb_ BK162 hb; replace HB := Aside0.mk (below_step (by repeat (first | (with_reducible first | exact HB.out | apply bU | apply bS GE162.out) | exact HB.out)) hb); clear hb ho61; obtain ⟨Ao62, co62, eo62⟩ := Kd.R_slice HO198.out; subst eo62) | ((with_reducible refine gate_builtin (b := .append) (xs := #[.tmp 75, .tmp 78]) rfl ?_); at_builtin; refine Kd.N_append k52 (w0 := w) w.heap.size rfl (.tmp 75) (.tmp 78) 53 52 (.agg #[(.int .i64 0), (.slice none 0 0)]) 32 rfl Try.underlying53 info52 rfl (by decide) (by omega) u4 x4_2 (⟨4, y196⟩ : S52) [.int .i64 4, .slice Ao62 y196.length co62] (fun k_ => k_ ≠ gb162) (fun k_ => ((fun k_ => k_ ≠ gb162)) k_ ∧ some k_ ≠ (u4 : Value).ownBlock) rfl rfl ?aP (fun _ hk => hk) ?aF ?aO ?aB ?aS ?aL ?_; (case aP => exact (k52_mkF _ _ (⟨4, y196⟩ : S52) (Kd.R_reads' (Kd.R_mono (ok' := (fun k_ => ((fun k_ => k_ ≠ gb162)) k_ ∧ some k_ ≠ (u4 : Value).ownBlock)) (Kd.R_types (Kd.R_apart' (HO198.out) (Kd.N_typed HO_4.out) (by decide)) BK162.out (by decide)) (fun k_ hk => ⟨hk.2, hk.1.2⟩))).2.1 (Kd.R_F (Kd.R_mono (ok' := (fun k_ => ((fun k_ => k_ ≠ gb162)) k_ ∧ some k_ ≠ (u4 : Value).ownBlock)) (Kd.R_types (Kd.R_apart' (HO198.out) (Kd.N_typed HO_4.out) (by decide)) BK162.out (by decide)) (fun k_ hk => ⟨hk.2, hk.1.2⟩))))); (case aB => exact (by repeat (first | (with_reducible first | exact HB.out | apply bU | apply bS GE162.out) | exact HB.out))); (case aF => exact (fun k_ hk => Kd.freshB (g := gb162) (o := .cells #[.int .i64 a0_0, .int .i64 a0_1, .int .i64 a0_2, .bool a0_3, .slice A0_4 l0_4.length c0_4, .slice A0_5 l0_5.length c0_5] 25 (0, 0)) (kb_ BK162) k_ hk)); (case aO => exact (by (with_reducible repeat (first | apply Kd.N_alloc | apply Kd.N_drewN | apply Kd.N_drew)); exact Kd.N_mono HO_4.out (fun _ hk => hk.1))); (case aS => exact (below_size (by repeat (first | (with_reducible first | exact HB.out | apply bU | apply bS GE162.out) | exact HB.out)))); (case aL => have := LMc48.out; omega); intro v200 w63 ho hb hg hat; rw [← Ny199.out] at ho; have HO201 := Aside0.mk (ho); replace BK162 := Aside0.mk (blk_grown (g := gb162) (o := .cells #[.int .i64 a0_0, .int .i64 a0_1, .int .i64 a0_2, .bool a0_3, .slice A0_4 l0_4.length c0_4, .slice A0_5 l0_5.length c0_5] 25 (0, 0)) (kb_ BK162) hg (Kd.N_ne HO_4.out BK162.out (by decide))); replace HB := Aside0.mk (hb); clear HO_4 HO198; clear ho hb hg hat; obtain ⟨Ao64, co64, eo64⟩ := Kd.N_slice HO201.out; subst eo64) | ((with_reducible refine gate_callee (f := 27) rfl ?_); refine goesL_ (some 82) rfl rfl Try.func27 (by kernel_rfl) rfl #[.slice Ao64 y199.length co64] rfl (by (try simp only [List.map_toArray, List.map_cons, List.map_nil]); first | done | rfl | (simp only [List.length_drop, List.length_take]; rfl)) ?_; (with_reducible refine (codec_Encode.calls k2 _ _ y199 t202 t203 _ ?side1 ?side2 A49.out).mono ?_); (case side1 => repeat (first | exact (Kd.N_reads' HO201.out).2.2 | (with_reducible refine Kd.C_alloc ?_ _) | (with_reducible refine Kd.C_drewN ?_ _) | (with_reducible refine Kd.C_drew ?_))); (case side2 => exact (Kd.N_reads' HO201.out).2.1); rintro e w65 ⟨v204, rfl, ho0, hb⟩; refine ⟨_, rfl, ?_⟩; have HO205 := Aside0.mk (Kd.R_lower ho0 (below_size (by repeat (first | (with_reducible first | exact HB.out | apply bU | apply bS GE162.out) | exact HB.out)))); replace HO201 := Aside0.mk (Kd.N_elder' (by (with_reducible repeat (first | apply Kd.N_alloc | apply Kd.N_drewN | apply Kd.N_drew)); exact HO201.out) (Kd.R_base ho0) hb); replace BK162 := bb_ BK162 hb; replace HB := Aside0.mk (below_step (by repeat (first | (with_reducible first | exact HB.out | apply bU | apply bS GE162.out) | exact HB.out)) hb); (try clear hb); (try clear hb2); (try clear hk); (try clear hi); (try clear ho0)))
           go_ret2
           exact ⟨_, by first | rfl | (simp [errW_none, errW_some] <;> rfl) | (simp [*, errW_none, errW_some] <;> rfl), by first | exact Kd.R_nil _ _ _ _ _ | exact Kd.N_nil _ _ _ _ _ | exact Kd.V_nil _ _ _ _ _ | exact Kd.Q_nil _ _ _ _ _ | exact Kd.S_nil _ _ _ _ _, by repeat (first | (with_reducible first | exact HB.out | apply bU | apply bS GE162.out) | exact HB.out)⟩
         ·rw [if_neg c48] at H
          exact absurd H (by simp)
        ·rw [if_neg c47] at H
         exact absurd H (by simp)
 ·replace c3 := Bool.eq_false_iff.mpr c3
  subst c3
  have H1 : (some (([] : List Int), 1)) = some (r1, r2) := by rw [if_neg (show ¬ (false = true) by decide)] at H; exact H
  clear H
  have H := H1
  clear H1
  simp only [Option.some.injEq, Prod.mk.injEq] at H
  obtain ⟨rfl, rfl⟩ := H
  go_enter Try.func12, Try.ntmps12
  go_wp2_with (first | ((with_reducible refine gate_dst (N := 1) rfl ?_); refine bx_ 1 #[.int .i64 a0_0, .int .i64 a0_1, .int .i64 a0_2, .bool a0_3, .slice A0_4 l0_4.length c0_4, .slice A0_5 l0_5.length c0_5] 25 rfl rfl ?hr ?_; (case hr => go_simp; try rfl); intro gb162 hg w66 hbox hb; have BK162 := Aside0.mk (hbox); have GW162 := gs_ HB hg; have GE162 := gs_ HB hg; replace HB := bs_ HB hb; clear hb hbox hg; obtain ⟨hcz67_0, hcz67_1, hcz67_2, hcz67_3, hcz67_4, hcz67_5, hfz67_0, hfz67_1, hfz67_2, hfz67_3, hfz67_4, hfz67_5⟩ := c6_ BK162) | ((with_reducible refine gate_callee (f := 14) rfl ?_); refine goesL_ (some 12) rfl rfl Try.func14 (by kernel_rfl) rfl #[.agg #[.int .i64 a0_0, .int .i64 a0_1, .int .i64 a0_2, .bool a0_3, .slice A0_4 l0_4.length c0_4, .slice A0_5 l0_5.length c0_5]] rfl (by (try simp only [List.map_toArray, List.map_cons, List.map_nil]); first | done | rfl | (simp only [List.length_drop, List.length_take]; rfl)) ?_; (with_reducible refine (lsa_Valid.calls k a0_0 a0_1 a0_2 a0_3 _ _ l0_4 _ _ l0_5 false _ ?side1 ?side2 ?side3 ?side4 A2.out).mono ?_); (case side1 => exact cs_ HR0_4 HB); (case side2 => exact HC0_4.out); (case side3 => exact cs_ HR0_5 HB); (case side4 => exact HC0_5.out); rintro e w68 ⟨rfl, hb⟩; refine ⟨_, rfl, ?_⟩; replace BK162 := bb_ BK162 hb; replace HB := Aside0.mk (below_step (by repeat (first | (with_reducible first | exact HB.out | apply bU | apply bS GE162.out) | exact HB.out)) hb); (try clear hb); (try clear hb2); (try clear hk); (try clear hi)))
  go_ret2
  exact ⟨_, by first | rfl | (simp [errW_none, errW_some] <;> rfl) | (simp [*, errW_none, errW_some] <;> rfl), by first | exact Kd.R_nil _ _ _ _ _ | exact Kd.N_nil _ _ _ _ _ | exact Kd.V_nil _ _ _ _ _ | exact Kd.Q_nil _ _ _ _ _ | exact Kd.S_nil _ _ _ _ _, by repeat (first | (with_reducible first | exact HB.out | apply bU | apply bS GE162.out) | exact HB.out)⟩

/-! ### lsa_Purge: function 13 -/
def lsa_Purge.f (k : Nat) (a0_0 : Int) (a0_1 : Int) (a0_2 : Int) (a0_3 : Bool) (l0_4 : List (S43)) (l0_5 : List (S56)) : Option (Int × Int × Int × Bool × (List (S43)) × (List (S56)) × Int) := (lsa_Valid.f k a0_0 a0_1 a0_2 a0_3 l0_4 l0_5).bind fun t212 => (if t212 = true then (some (a0_0, a0_1, 3600, false, ([] : List (S43)), ([] : List (S56)), 0)) else (some (0, 0, 0, false, ([] : List (S43)), ([] : List (S56)), 1)))
theorem lsa_Purge.mono : ∀ a0 a1 a2 a3 a4 a5 k, LeO (lsa_Purge.f k a0 a1 a2 a3 a4 a5) (lsa_Purge.f (k + 1) a0 a1 a2 a3 a4 a5) := by
 intro a0 a1 a2 a3 a4 a5 k
 unfold lsa_Purge.f
 repeat' first
   | (with_reducible exact lsa_Valid.mono _ _ _ _ _ _ _)
   | (with_reducible exact LeO.refl _)
   | (with_reducible exact LeO.none _)
   | (with_reducible refine LeO.ite ?_ ?_)
   | (with_reducible refine LeO.bind ?_ (fun _ => ?_))
   | exact lsa_Valid.mono _ _ _ _ _ _ _
   | exact LeO.none _
   | refine LeO.ite ?_ ?_
   | refine LeO.bind ?_ (fun _ => ?_)
set_option maxHeartbeats 8000000 in
set_option maxRecDepth 100000 in
theorem lsa_Purge.calls (k : Nat) (a0_0 : Int) (a0_1 : Int) (a0_2 : Int) (a0_3 : Bool) (A0_4 : Option Addr) (c0_4 : Nat) (l0_4 : List (S43)) (A0_5 : Option Addr) (c0_5 : Nat) (l0_5 : List (S56)) (r1 : Int) (r2 : Int) (r3 : Int) (r4 : Bool) (r5 : List (S43)) (r6 : List (S56)) (r7 : Int) (w : World) (hr0_4 : Kd.C k43 w A0_4 l0_4.length l0_4) (hc0_4 : l0_4.length ≤ c0_4) (hr0_5 : Kd.C k56 w A0_5 l0_5.length l0_5) (hc0_5 : l0_5.length ≤ c0_5) (h : lsa_Purge.f k a0_0 a0_1 a0_2 a0_3 l0_4 l0_5 = some (r1, r2, r3, r4, r5, r6, r7)) :
  Calls Try.prog 13 #[.agg #[.int .i64 a0_0, .int .i64 a0_1, .int .i64 a0_2, .bool a0_3, .slice A0_4 l0_4.length c0_4, .slice A0_5 l0_5.length c0_5]] w fun e w' => ∃ v4_ v5_ : Value, e = .returned (.tuple #[.agg #[.int .i64 r1, .int .i64 r2, .int .i64 r3, .bool r4, v4_, v5_], .int .i64 r7]) ∧ Kd.R k43 43 w' w.heap.size (fun _ => True) v4_ r5 ∧ Kd.R k56 56 w' w.heap.size (fun _ => True) v5_ r6 ∧ Below w.heap.size w w' := by
 have hu25 := Try.underlying25
 have HR0_4 := Aside0.mk hr0_4
 have HC0_4 := Aside0.mk hc0_4
 clear hr0_4 hc0_4
 have HR0_5 := Aside0.mk hr0_5
 have HC0_5 := Aside0.mk hc0_5
 clear hr0_5 hc0_5
 have HB := Aside0.mk (Below.refl w.heap.size w)
 have H : ((lsa_Valid.f k a0_0 a0_1 a0_2 a0_3 l0_4 l0_5).bind fun t212 => (if t212 = true then (some (a0_0, a0_1, 3600, false, ([] : List (S43)), ([] : List (S56)), 0)) else (some (0, 0, 0, false, ([] : List (S43)), ([] : List (S56)), 1)))) = some (r1, r2, r3, r4, r5, r6, r7) := h
 clear h
 replace H := Option.bind_eq_some_iff.mp H
 obtain ⟨t212, A20, H⟩ := H
 replace H : (if t212 = true then (some (a0_0, a0_1, 3600, false, ([] : List (S43)), ([] : List (S56)), 0)) else (some (0, 0, 0, false, ([] : List (S43)), ([] : List (S56)), 1))) = some (r1, r2, r3, r4, r5, r6, r7) := H
 have A2 := Aside0.mk A20
 clear A20
 by_cases c3 : t212 = true
 ·subst c3
  have H1 : (some (a0_0, a0_1, 3600, false, ([] : List (S43)), ([] : List (S56)), 0)) = some (r1, r2, r3, r4, r5, r6, r7) := by rw [if_pos rfl] at H; exact H
  clear H
  have H := H1
  clear H1
  simp only [Option.some.injEq, Prod.mk.injEq] at H
  obtain ⟨rfl, rfl, rfl, rfl, rfl, rfl, rfl⟩ := H
  go_enter Try.func13, Try.ntmps13
  go_wp2_with (first | ((with_reducible refine gate_dst (N := 1) rfl ?_); refine bx_ 1 #[.int .i64 a0_0, .int .i64 a0_1, .int .i64 a0_2, .bool a0_3, .slice A0_4 l0_4.length c0_4, .slice A0_5 l0_5.length c0_5] 25 rfl rfl ?hr ?_; (case hr => go_simp; try rfl); intro gb210 hg w4 hbox hb; have BK210 := Aside0.mk (hbox); have GW210 := gs_ HB hg; have GE210 := gs_ HB hg; replace HB := bs_ HB hb; clear hb hbox hg) | ((with_reducible refine gate_dst (N := 2) rfl ?_); refine bx_ 2 #[.int .i64 0, .int .i64 0, .int .i64 0, .bool false, .slice none 0 0, .slice none 0 0] 25 rfl rfl ?hr ?_; (case hr => go_simp; try rfl); intro gb211 hg w5 hbox hb; have BK211 := Aside0.mk (hbox); have GW211 := Aside0.mk ((by rw [hg]; exact (below_size (by repeat (first | (with_reducible first | exact HB.out | apply bU | apply bS GE210.out) | exact HB.out))) : w.heap.size ≤ gb211)); have GE211 := Aside0.mk ((by rw [hg]; exact (below_size (by repeat (first | (with_reducible first | exact HB.out | apply bU | apply bS GE210.out) | exact HB.out))) : w.heap.size ≤ gb211)); have NB210_211 := nl_ BK210 hg; have NB211_210 := ng_ BK210 hg; replace BK210 := bb_ BK210 hb; replace HB := Aside0.mk (below_step (by repeat (first | (with_reducible first | exact HB.out | apply bU | apply bS GE210.out) | exact HB.out)) hb); clear hb hbox hg; have hnb6 := NB210_211.out; have hnc6 := NB211_210.out; obtain ⟨hcz7_0, hcz7_1, hcz7_2, hcz7_3, hcz7_4, hcz7_5, hfz7_0, hfz7_1, hfz7_2, hfz7_3, hfz7_4, hfz7_5⟩ := c6_ BK210) | ((with_reducible refine gate_callee (f := 14) rfl ?_); refine goesL_ (some 5) rfl rfl Try.func14 (by kernel_rfl) rfl #[.agg #[.int .i64 a0_0, .int .i64 a0_1, .int .i64 a0_2, .bool a0_3, .slice A0_4 l0_4.length c0_4, .slice A0_5 l0_5.length c0_5]] rfl (by (try simp only [List.map_toArray, List.map_cons, List.map_nil]); first | done | rfl | (simp only [List.length_drop, List.length_take]; rfl)) ?_; (with_reducible refine (lsa_Valid.calls k a0_0 a0_1 a0_2 a0_3 _ _ l0_4 _ _ l0_5 true _ ?side1 ?side2 ?side3 ?side4 A2.out).mono ?_); (case side1 => exact cs_ HR0_4 HB); (case side2 => exact HC0_4.out); (case side3 => exact cs_ HR0_5 HB); (case side4 => exact HC0_5.out); rintro e w8 ⟨rfl, hb⟩; refine ⟨_, rfl, ?_⟩; replace BK210 := bb_ BK210 hb; replace BK211 := bb_ BK211 hb; replace HB := Aside0.mk (below_step (by repeat (first | (with_reducible first | exact HB.out | apply bU | apply bS GE210.out | apply bS GE211.out) | exact HB.out)) hb); (try clear hb); (try clear hb2); (try clear hk); (try clear hi); obtain ⟨hcz9_0, hcz9_1, hcz9_2, hcz9_3, hcz9_4, hcz9_5, hfz9_0, hfz9_1, hfz9_2, hfz9_3, hfz9_4, hfz9_5⟩ := c6_ BK210; obtain ⟨hcz10_0, hcz10_1, hcz10_2, hcz10_3, hcz10_4, hcz10_5, hfz10_0, hfz10_1, hfz10_2, hfz10_3, hfz10_4, hfz10_5⟩ := c6_ BK211))
  refine bodyPost_ret (results_ct rfl _ _ gb211 25 #[.int .i64 a0_0, .int .i64 a0_1, .int .i64 3600, .bool false, .slice none 0 0, .slice none 0 0] (0, 0) _ rfl (by (with_reducible repeat (first | refine blk_drewN ?_ _ | refine blk_drew ?_ | refine blk_alloc ?_ _)); refine blk_put (cs := #[.int .i64 a0_0, .int .i64 a0_1, .int .i64 3600, .bool false, .slice none 0 0, .slice none 0 0]) ?_ 5 _ rfl; (with_reducible repeat (first | refine blk_drewN ?_ _ | refine blk_drew ?_ | refine blk_alloc ?_ _)); refine blk_put (cs := #[.int .i64 a0_0, .int .i64 a0_1, .int .i64 3600, .bool false, .slice none 0 0, .slice none 0 0]) ?_ 4 _ rfl; (with_reducible repeat (first | refine blk_drewN ?_ _ | refine blk_drew ?_ | refine blk_alloc ?_ _)); refine blk_put (cs := #[.int .i64 a0_0, .int .i64 a0_1, .int .i64 3600, .bool false, .slice none 0 0, .slice none 0 0]) ?_ 3 _ rfl; (with_reducible repeat (first | refine blk_drewN ?_ _ | refine blk_drew ?_ | refine blk_alloc ?_ _)); refine blk_put (cs := #[.int .i64 a0_0, .int .i64 a0_1, .int .i64 0, .bool false, .slice none 0 0, .slice none 0 0]) ?_ 2 _ rfl; (with_reducible repeat (first | refine blk_drewN ?_ _ | refine blk_drew ?_ | refine blk_alloc ?_ _)); refine blk_put (cs := #[.int .i64 a0_0, .int .i64 0, .int .i64 0, .bool false, .slice none 0 0, .slice none 0 0]) ?_ 1 _ rfl; (with_reducible repeat (first | refine blk_drewN ?_ _ | refine blk_drew ?_ | refine blk_alloc ?_ _)); refine blk_put (cs := #[.int .i64 0, .int .i64 0, .int .i64 0, .bool false, .slice none 0 0, .slice none 0 0]) ?_ 0 _ rfl; (with_reducible repeat (first | refine blk_drewN ?_ _ | refine blk_drew ?_ | refine blk_alloc ?_ _)); exact BK211.out) Try.underlying25 rfl (by kernel_rfl)) rfl ?_
  exact ⟨_, _, by first | rfl | (simp [errW_none, errW_some] <;> rfl) | (simp [*, errW_none, errW_some] <;> rfl), by first | exact Kd.R_nil _ _ _ _ _ | exact Kd.N_nil _ _ _ _ _ | exact Kd.V_nil _ _ _ _ _ | exact Kd.Q_nil _ _ _ _ _ | exact Kd.S_nil _ _ _ _ _, by first | exact Kd.R_nil _ _ _ _ _ | exact Kd.N_nil _ _ _ _ _ | exact Kd.V_nil _ _ _ _ _ | exact Kd.Q_nil _ _ _ _ _ | exact Kd.S_nil _ _ _ _ _, by repeat (first | (with_reducible first | exact HB.out | apply bU | apply bS GE210.out | apply bS GE211.out) | exact HB.out)⟩
 ·replace c3 := Bool.eq_false_iff.mpr c3
  subst c3
  have H1 : (some (0, 0, 0, false, ([] : List (S43)), ([] : List (S56)), 1)) = some (r1, r2, r3, r4, r5, r6, r7) := by rw [if_neg (show ¬ (false = true) by decide)] at H; exact H
  clear H
  have H := H1
  clear H1
  simp only [Option.some.injEq, Prod.mk.injEq] at H
  obtain ⟨rfl, rfl, rfl, rfl, rfl, rfl, rfl⟩ := H
  go_enter Try.func13, Try.ntmps13
  go_wp2_with (first | ((with_reducible refine gate_dst (N := 1) rfl ?_); refine bx_ 1 #[.int .i64 a0_0, .int .i64 a0_1, .int .i64 a0_2, .bool a0_3, .slice A0_4 l0_4.length c0_4, .slice A0_5 l0_5.length c0_5] 25 rfl rfl ?hr ?_; (case hr => go_simp; try rfl); intro gb210 hg w11 hbox hb; have BK210 := Aside0.mk (hbox); have GW210 := gs_ HB hg; have GE210 := gs_ HB hg; replace HB := bs_ HB hb; clear hb hbox hg) | ((with_reducible refine gate_dst (N := 2) rfl ?_); refine bx_ 2 #[.int .i64 0, .int .i64 0, .int .i64 0, .bool false, .slice none 0 0, .slice none 0 0] 25 rfl rfl ?hr ?_; (case hr => go_simp; try rfl); intro gb211 hg w12 hbox hb; have BK211 := Aside0.mk (hbox); have GW211 := Aside0.mk ((by rw [hg]; exact (below_size (by repeat (first | (with_reducible first | exact HB.out | apply bU | apply bS GE210.out) | exact HB.out))) : w.heap.size ≤ gb211)); have GE211 := Aside0.mk ((by rw [hg]; exact (below_size (by repeat (first | (with_reducible first | exact HB.out | apply bU | apply bS GE210.out) | exact HB.out))) : w.heap.size ≤ gb211)); have NB210_211 := nl_ BK210 hg; have NB211_210 := ng_ BK210 hg; replace BK210 := bb_ BK210 hb; replace HB := Aside0.mk (below_step (by repeat (first | (with_reducible first | exact HB.out | apply bU | apply bS GE210.out) | exact HB.out)) hb); clear hb hbox hg; have hnb13 := NB210_211.out; have hnc13 := NB211_210.out; obtain ⟨hcz14_0, hcz14_1, hcz14_2, hcz14_3, hcz14_4, hcz14_5, hfz14_0, hfz14_1, hfz14_2, hfz14_3, hfz14_4, hfz14_5⟩ := c6_ BK210) | ((with_reducible refine gate_callee (f := 14) rfl ?_); refine goesL_ (some 5) rfl rfl Try.func14 (by kernel_rfl) rfl #[.agg #[.int .i64 a0_0, .int .i64 a0_1, .int .i64 a0_2, .bool a0_3, .slice A0_4 l0_4.length c0_4, .slice A0_5 l0_5.length c0_5]] rfl (by (try simp only [List.map_toArray, List.map_cons, List.map_nil]); first | done | rfl | (simp only [List.length_drop, List.length_take]; rfl)) ?_; (with_reducible refine (lsa_Valid.calls k a0_0 a0_1 a0_2 a0_3 _ _ l0_4 _ _ l0_5 false _ ?side1 ?side2 ?side3 ?side4 A2.out).mono ?_); (case side1 => exact cs_ HR0_4 HB); (case side2 => exact HC0_4.out); (case side3 => exact cs_ HR0_5 HB); (case side4 => exact HC0_5.out); rintro e w15 ⟨rfl, hb⟩; refine ⟨_, rfl, ?_⟩; replace BK210 := bb_ BK210 hb; replace BK211 := bb_ BK211 hb; replace HB := Aside0.mk (below_step (by repeat (first | (with_reducible first | exact HB.out | apply bU | apply bS GE210.out | apply bS GE211.out) | exact HB.out)) hb); (try clear hb); (try clear hb2); (try clear hk); (try clear hi); obtain ⟨hcz16_0, hcz16_1, hcz16_2, hcz16_3, hcz16_4, hcz16_5, hfz16_0, hfz16_1, hfz16_2, hfz16_3, hfz16_4, hfz16_5⟩ := c6_ BK211))
  refine bodyPost_ret (results_ct rfl _ _ gb211 25 #[.int .i64 0, .int .i64 0, .int .i64 0, .bool false, .slice none 0 0, .slice none 0 0] (0, 0) _ rfl (by (with_reducible repeat (first | refine blk_drewN ?_ _ | refine blk_drew ?_ | refine blk_alloc ?_ _)); refine blk_put (cs := #[.int .i64 0, .int .i64 0, .int .i64 0, .bool false, .slice none 0 0, .slice none 0 0]) ?_ 5 _ rfl; (with_reducible repeat (first | refine blk_drewN ?_ _ | refine blk_drew ?_ | refine blk_alloc ?_ _)); refine blk_put (cs := #[.int .i64 0, .int .i64 0, .int .i64 0, .bool false, .slice none 0 0, .slice none 0 0]) ?_ 4 _ rfl; (with_reducible repeat (first | refine blk_drewN ?_ _ | refine blk_drew ?_ | refine blk_alloc ?_ _)); refine blk_put (cs := #[.int .i64 0, .int .i64 0, .int .i64 0, .bool false, .slice none 0 0, .slice none 0 0]) ?_ 3 _ rfl; (with_reducible repeat (first | refine blk_drewN ?_ _ | refine blk_drew ?_ | refine blk_alloc ?_ _)); refine blk_put (cs := #[.int .i64 0, .int .i64 0, .int .i64 0, .bool false, .slice none 0 0, .slice none 0 0]) ?_ 2 _ rfl; (with_reducible repeat (first | refine blk_drewN ?_ _ | refine blk_drew ?_ | refine blk_alloc ?_ _)); refine blk_put (cs := #[.int .i64 0, .int .i64 0, .int .i64 0, .bool false, .slice none 0 0, .slice none 0 0]) ?_ 1 _ rfl; (with_reducible repeat (first | refine blk_drewN ?_ _ | refine blk_drew ?_ | refine blk_alloc ?_ _)); refine blk_put (cs := #[.int .i64 0, .int .i64 0, .int .i64 0, .bool false, .slice none 0 0, .slice none 0 0]) ?_ 0 _ rfl; (with_reducible repeat (first | refine blk_drewN ?_ _ | refine blk_drew ?_ | refine blk_alloc ?_ _)); exact BK211.out) Try.underlying25 rfl (by kernel_rfl)) rfl ?_
  exact ⟨_, _, by first | rfl | (simp [errW_none, errW_some] <;> rfl) | (simp [*, errW_none, errW_some] <;> rfl), by first | exact Kd.R_nil _ _ _ _ _ | exact Kd.N_nil _ _ _ _ _ | exact Kd.V_nil _ _ _ _ _ | exact Kd.Q_nil _ _ _ _ _ | exact Kd.S_nil _ _ _ _ _, by first | exact Kd.R_nil _ _ _ _ _ | exact Kd.N_nil _ _ _ _ _ | exact Kd.V_nil _ _ _ _ _ | exact Kd.Q_nil _ _ _ _ _ | exact Kd.S_nil _ _ _ _ _, by repeat (first | (with_reducible first | exact HB.out | apply bU | apply bS GE210.out | apply bS GE211.out) | exact HB.out)⟩

end Go.Proofs.Ytmknjjfdlkgidaa.HLsc
