-- LAID by wip/hand.py, a program of this repository, over the kit's print: contracts of our own are put in. Lean checks it.
import Derived.Test.YtddklmefighilaaHNamesx0
namespace Go.Proofs.Ytddklmefighilaa.HNames
open Go.RowKit Go.Proofs.YtddklmefighilaaW.PrintWords Go.Proofs.YtddklmefighilaaW.PrintLast Go.Proofs.YtddklmefighilaaW.PrintMore
attribute [local go_sem] max2_int min2_int max_two min_two max_three min_three max_four min_four   -- for this text's walks alone
set_option linter.unusedVariables false
set_option linter.unusedSimpArgs false

/-! ### console_Name: function 15 -/
def console_Name.list_ : List ByteArray := [(⟨#[111, 107]⟩ : ByteArray), (⟨#[97, 114, 103, 117, 109, 101, 110, 116]⟩ : ByteArray), (⟨#[114, 97, 110, 103, 101]⟩ : ByteArray), (⟨#[115, 121, 110, 116, 97, 120]⟩ : ByteArray), (⟨#[102, 111, 114, 109]⟩ : ByteArray), (⟨#[115, 117, 109]⟩ : ByteArray), (⟨#[108, 105, 109, 105, 116]⟩ : ByteArray), (⟨#[115, 116, 97, 116, 101]⟩ : ByteArray), (⟨#[110, 111, 110, 101]⟩ : ByteArray), (⟨#[100, 117, 112, 108, 105, 99, 97, 116, 101]⟩ : ByteArray), (⟨#[100, 105, 118, 105, 100, 101]⟩ : ByteArray), (⟨#[117, 110, 114, 101, 97, 99, 104, 97, 98, 108, 101]⟩ : ByteArray), (⟨#[99, 97, 112, 97, 99, 105, 116, 121]⟩ : ByteArray), (⟨#[105, 110, 102, 101, 97, 115, 105, 98, 108, 101]⟩ : ByteArray), (⟨#[117, 110, 98, 111, 117, 110, 100, 101, 100]⟩ : ByteArray), (⟨#[115, 116, 97, 108, 101]⟩ : ByteArray), (⟨#[108, 111, 111, 112]⟩ : ByteArray)]
def console_Name.f (a0 : Int) : Option (ByteArray) := if a0 < 0 then some (⟨#[]⟩ : ByteArray) else if a0 ≥ 17 then some (⟨#[]⟩ : ByteArray) else some (rdOf ByteArray.empty console_Name.list_ a0)
theorem console_Name.at0 (w : World) : Calls Try.prog 15 #[.int .i64 0] w fun e w' => e = .returned (.string (rdOf ByteArray.empty console_Name.list_ 0)) ∧ Below w.heap.size w w' := by
  go_enter Try.func15, Try.ntmps15
  go_wp2
  go_ret
  exact ⟨rfl, by repeat (first | exact Below.refl _ _ | apply below_alloc | apply pw_below_drewN | apply below_drew1)⟩
theorem console_Name.at1 (w : World) : Calls Try.prog 15 #[.int .i64 1] w fun e w' => e = .returned (.string (rdOf ByteArray.empty console_Name.list_ 1)) ∧ Below w.heap.size w w' := by
  go_enter Try.func15, Try.ntmps15
  go_wp2
  go_ret
  exact ⟨rfl, by repeat (first | exact Below.refl _ _ | apply below_alloc | apply pw_below_drewN | apply below_drew1)⟩
theorem console_Name.at2 (w : World) : Calls Try.prog 15 #[.int .i64 2] w fun e w' => e = .returned (.string (rdOf ByteArray.empty console_Name.list_ 2)) ∧ Below w.heap.size w w' := by
  go_enter Try.func15, Try.ntmps15
  go_wp2
  go_ret
  exact ⟨rfl, by repeat (first | exact Below.refl _ _ | apply below_alloc | apply pw_below_drewN | apply below_drew1)⟩
theorem console_Name.at3 (w : World) : Calls Try.prog 15 #[.int .i64 3] w fun e w' => e = .returned (.string (rdOf ByteArray.empty console_Name.list_ 3)) ∧ Below w.heap.size w w' := by
  go_enter Try.func15, Try.ntmps15
  go_wp2
  go_ret
  exact ⟨rfl, by repeat (first | exact Below.refl _ _ | apply below_alloc | apply pw_below_drewN | apply below_drew1)⟩
theorem console_Name.at4 (w : World) : Calls Try.prog 15 #[.int .i64 4] w fun e w' => e = .returned (.string (rdOf ByteArray.empty console_Name.list_ 4)) ∧ Below w.heap.size w w' := by
  go_enter Try.func15, Try.ntmps15
  go_wp2
  go_ret
  exact ⟨rfl, by repeat (first | exact Below.refl _ _ | apply below_alloc | apply pw_below_drewN | apply below_drew1)⟩
theorem console_Name.at5 (w : World) : Calls Try.prog 15 #[.int .i64 5] w fun e w' => e = .returned (.string (rdOf ByteArray.empty console_Name.list_ 5)) ∧ Below w.heap.size w w' := by
  go_enter Try.func15, Try.ntmps15
  go_wp2
  go_ret
  exact ⟨rfl, by repeat (first | exact Below.refl _ _ | apply below_alloc | apply pw_below_drewN | apply below_drew1)⟩
theorem console_Name.at6 (w : World) : Calls Try.prog 15 #[.int .i64 6] w fun e w' => e = .returned (.string (rdOf ByteArray.empty console_Name.list_ 6)) ∧ Below w.heap.size w w' := by
  go_enter Try.func15, Try.ntmps15
  go_wp2
  go_ret
  exact ⟨rfl, by repeat (first | exact Below.refl _ _ | apply below_alloc | apply pw_below_drewN | apply below_drew1)⟩
theorem console_Name.at7 (w : World) : Calls Try.prog 15 #[.int .i64 7] w fun e w' => e = .returned (.string (rdOf ByteArray.empty console_Name.list_ 7)) ∧ Below w.heap.size w w' := by
  go_enter Try.func15, Try.ntmps15
  go_wp2
  go_ret
  exact ⟨rfl, by repeat (first | exact Below.refl _ _ | apply below_alloc | apply pw_below_drewN | apply below_drew1)⟩
theorem console_Name.at8 (w : World) : Calls Try.prog 15 #[.int .i64 8] w fun e w' => e = .returned (.string (rdOf ByteArray.empty console_Name.list_ 8)) ∧ Below w.heap.size w w' := by
  go_enter Try.func15, Try.ntmps15
  go_wp2
  go_ret
  exact ⟨rfl, by repeat (first | exact Below.refl _ _ | apply below_alloc | apply pw_below_drewN | apply below_drew1)⟩
theorem console_Name.at9 (w : World) : Calls Try.prog 15 #[.int .i64 9] w fun e w' => e = .returned (.string (rdOf ByteArray.empty console_Name.list_ 9)) ∧ Below w.heap.size w w' := by
  go_enter Try.func15, Try.ntmps15
  go_wp2
  go_ret
  exact ⟨rfl, by repeat (first | exact Below.refl _ _ | apply below_alloc | apply pw_below_drewN | apply below_drew1)⟩
theorem console_Name.at10 (w : World) : Calls Try.prog 15 #[.int .i64 10] w fun e w' => e = .returned (.string (rdOf ByteArray.empty console_Name.list_ 10)) ∧ Below w.heap.size w w' := by
  go_enter Try.func15, Try.ntmps15
  go_wp2
  go_ret
  exact ⟨rfl, by repeat (first | exact Below.refl _ _ | apply below_alloc | apply pw_below_drewN | apply below_drew1)⟩
theorem console_Name.at11 (w : World) : Calls Try.prog 15 #[.int .i64 11] w fun e w' => e = .returned (.string (rdOf ByteArray.empty console_Name.list_ 11)) ∧ Below w.heap.size w w' := by
  go_enter Try.func15, Try.ntmps15
  go_wp2
  go_ret
  exact ⟨rfl, by repeat (first | exact Below.refl _ _ | apply below_alloc | apply pw_below_drewN | apply below_drew1)⟩
theorem console_Name.at12 (w : World) : Calls Try.prog 15 #[.int .i64 12] w fun e w' => e = .returned (.string (rdOf ByteArray.empty console_Name.list_ 12)) ∧ Below w.heap.size w w' := by
  go_enter Try.func15, Try.ntmps15
  go_wp2
  go_ret
  exact ⟨rfl, by repeat (first | exact Below.refl _ _ | apply below_alloc | apply pw_below_drewN | apply below_drew1)⟩
theorem console_Name.at13 (w : World) : Calls Try.prog 15 #[.int .i64 13] w fun e w' => e = .returned (.string (rdOf ByteArray.empty console_Name.list_ 13)) ∧ Below w.heap.size w w' := by
  go_enter Try.func15, Try.ntmps15
  go_wp2
  go_ret
  exact ⟨rfl, by repeat (first | exact Below.refl _ _ | apply below_alloc | apply pw_below_drewN | apply below_drew1)⟩
theorem console_Name.at14 (w : World) : Calls Try.prog 15 #[.int .i64 14] w fun e w' => e = .returned (.string (rdOf ByteArray.empty console_Name.list_ 14)) ∧ Below w.heap.size w w' := by
  go_enter Try.func15, Try.ntmps15
  go_wp2
  go_ret
  exact ⟨rfl, by repeat (first | exact Below.refl _ _ | apply below_alloc | apply pw_below_drewN | apply below_drew1)⟩
theorem console_Name.at15 (w : World) : Calls Try.prog 15 #[.int .i64 15] w fun e w' => e = .returned (.string (rdOf ByteArray.empty console_Name.list_ 15)) ∧ Below w.heap.size w w' := by
  go_enter Try.func15, Try.ntmps15
  go_wp2
  go_ret
  exact ⟨rfl, by repeat (first | exact Below.refl _ _ | apply below_alloc | apply pw_below_drewN | apply below_drew1)⟩
theorem console_Name.at16 (w : World) : Calls Try.prog 15 #[.int .i64 16] w fun e w' => e = .returned (.string (rdOf ByteArray.empty console_Name.list_ 16)) ∧ Below w.heap.size w w' := by
  go_enter Try.func15, Try.ntmps15
  go_wp2
  go_ret
  exact ⟨rfl, by repeat (first | exact Below.refl _ _ | apply below_alloc | apply pw_below_drewN | apply below_drew1)⟩
theorem console_Name.calls (a0 : Int) (r : ByteArray) (w : World) (h : console_Name.f a0 = some r) :
    Calls Try.prog 15 #[.int .i64 a0] w fun e w' => e = .returned (.string r) ∧ Below w.heap.size w w' := by
  unfold console_Name.f at h
  by_cases h0 : a0 < 0
  · rw [if_pos h0] at h
    obtain rfl := Option.some.inj h
    go_enter Try.func15, Try.ntmps15
    go_wp2
    go_ret
    exact ⟨rfl, by repeat (first | exact Below.refl _ _ | apply below_alloc | apply pw_below_drewN | apply below_drew1)⟩
  · rw [if_neg h0] at h
    by_cases h1 : a0 ≥ 17
    · rw [if_pos h1] at h
      obtain rfl := Option.some.inj h
      have h2 : decide (a0 < 0) = false := decide_eq_false h0
      go_enter Try.func15, Try.ntmps15
      go_wp2
      go_ret
      exact ⟨rfl, by repeat (first | exact Below.refl _ _ | apply below_alloc | apply pw_below_drewN | apply below_drew1)⟩
    · rw [if_neg h1] at h
      obtain rfl := Option.some.inj h
      have hc : a0 = 0 ∨ a0 = 1 ∨ a0 = 2 ∨ a0 = 3 ∨ a0 = 4 ∨ a0 = 5 ∨ a0 = 6 ∨ a0 = 7 ∨ a0 = 8 ∨ a0 = 9 ∨ a0 = 10 ∨ a0 = 11 ∨ a0 = 12 ∨ a0 = 13 ∨ a0 = 14 ∨ a0 = 15 ∨ a0 = 16 := by omega
      rcases hc with rfl | rfl | rfl | rfl | rfl | rfl | rfl | rfl | rfl | rfl | rfl | rfl | rfl | rfl | rfl | rfl | rfl
      · exact console_Name.at0 w
      · exact console_Name.at1 w
      · exact console_Name.at2 w
      · exact console_Name.at3 w
      · exact console_Name.at4 w
      · exact console_Name.at5 w
      · exact console_Name.at6 w
      · exact console_Name.at7 w
      · exact console_Name.at8 w
      · exact console_Name.at9 w
      · exact console_Name.at10 w
      · exact console_Name.at11 w
      · exact console_Name.at12 w
      · exact console_Name.at13 w
      · exact console_Name.at14 w
      · exact console_Name.at15 w
      · exact console_Name.at16 w


/-! ### waypointref58_Name: function 16 -/
def waypointref58_Name.f (a0 : Int) : Option (ByteArray) := (some (([(⟨#[111, 107]⟩ : ByteArray), (⟨#[97, 114, 103, 117, 109, 101, 110, 116]⟩ : ByteArray), (⟨#[114, 97, 110, 103, 101]⟩ : ByteArray), (⟨#[115, 121, 110, 116, 97, 120]⟩ : ByteArray), (⟨#[102, 111, 114, 109]⟩ : ByteArray), (⟨#[115, 117, 109]⟩ : ByteArray), (⟨#[108, 105, 109, 105, 116]⟩ : ByteArray), (⟨#[115, 116, 97, 116, 101]⟩ : ByteArray), (⟨#[110, 111, 110, 101]⟩ : ByteArray), (⟨#[100, 117, 112, 108, 105, 99, 97, 116, 101]⟩ : ByteArray), (⟨#[100, 105, 118, 105, 100, 101]⟩ : ByteArray), (⟨#[117, 110, 114, 101, 97, 99, 104, 97, 98, 108, 101]⟩ : ByteArray), (⟨#[99, 97, 112, 97, 99, 105, 116, 121]⟩ : ByteArray), (⟨#[105, 110, 102, 101, 97, 115, 105, 98, 108, 101]⟩ : ByteArray), (⟨#[117, 110, 98, 111, 117, 110, 100, 101, 100]⟩ : ByteArray), (⟨#[115, 116, 97, 108, 101]⟩ : ByteArray), (⟨#[108, 111, 111, 112]⟩ : ByteArray)] : List ByteArray) : List ByteArray)).bind fun y101 => (if a0 < 0 then (some (⟨#[]⟩ : ByteArray)) else (if a0 ≥ (y101.length : Int) then (some (⟨#[]⟩ : ByteArray)) else (if 0 ≤ a0 then (if a0 < (y101.length : Int) then (some (rdOf ByteArray.empty y101 a0)) else (none)) else (none))))
set_option maxHeartbeats 8000000 in
set_option maxRecDepth 100000 in
theorem waypointref58_Name.calls (a0 : Int) (r : ByteArray) (w : World) (h : waypointref58_Name.f a0 = some r) :
    Calls Try.prog 16 #[.int .i64 a0] w fun e w' => e = .returned (.string r) ∧ Below w.heap.size w w' := by
  have HB := Aside0.mk (Below.refl w.heap.size w)
  have H : ((some (([(⟨#[111, 107]⟩ : ByteArray), (⟨#[97, 114, 103, 117, 109, 101, 110, 116]⟩ : ByteArray), (⟨#[114, 97, 110, 103, 101]⟩ : ByteArray), (⟨#[115, 121, 110, 116, 97, 120]⟩ : ByteArray), (⟨#[102, 111, 114, 109]⟩ : ByteArray), (⟨#[115, 117, 109]⟩ : ByteArray), (⟨#[108, 105, 109, 105, 116]⟩ : ByteArray), (⟨#[115, 116, 97, 116, 101]⟩ : ByteArray), (⟨#[110, 111, 110, 101]⟩ : ByteArray), (⟨#[100, 117, 112, 108, 105, 99, 97, 116, 101]⟩ : ByteArray), (⟨#[100, 105, 118, 105, 100, 101]⟩ : ByteArray), (⟨#[117, 110, 114, 101, 97, 99, 104, 97, 98, 108, 101]⟩ : ByteArray), (⟨#[99, 97, 112, 97, 99, 105, 116, 121]⟩ : ByteArray), (⟨#[105, 110, 102, 101, 97, 115, 105, 98, 108, 101]⟩ : ByteArray), (⟨#[117, 110, 98, 111, 117, 110, 100, 101, 100]⟩ : ByteArray), (⟨#[115, 116, 97, 108, 101]⟩ : ByteArray), (⟨#[108, 111, 111, 112]⟩ : ByteArray)] : List ByteArray) : List ByteArray)).bind fun y101 => (if a0 < 0 then (some (⟨#[]⟩ : ByteArray)) else (if a0 ≥ (y101.length : Int) then (some (⟨#[]⟩ : ByteArray)) else (if 0 ≤ a0 then (if a0 < (y101.length : Int) then (some (rdOf ByteArray.empty y101 a0)) else (none)) else (none))))) = some r := h
  clear h
  obtain ⟨y101, hy101⟩ : ∃ y_ : List ByteArray, y_ = (([(⟨#[111, 107]⟩ : ByteArray), (⟨#[97, 114, 103, 117, 109, 101, 110, 116]⟩ : ByteArray), (⟨#[114, 97, 110, 103, 101]⟩ : ByteArray), (⟨#[115, 121, 110, 116, 97, 120]⟩ : ByteArray), (⟨#[102, 111, 114, 109]⟩ : ByteArray), (⟨#[115, 117, 109]⟩ : ByteArray), (⟨#[108, 105, 109, 105, 116]⟩ : ByteArray), (⟨#[115, 116, 97, 116, 101]⟩ : ByteArray), (⟨#[110, 111, 110, 101]⟩ : ByteArray), (⟨#[100, 117, 112, 108, 105, 99, 97, 116, 101]⟩ : ByteArray), (⟨#[100, 105, 118, 105, 100, 101]⟩ : ByteArray), (⟨#[117, 110, 114, 101, 97, 99, 104, 97, 98, 108, 101]⟩ : ByteArray), (⟨#[99, 97, 112, 97, 99, 105, 116, 121]⟩ : ByteArray), (⟨#[105, 110, 102, 101, 97, 115, 105, 98, 108, 101]⟩ : ByteArray), (⟨#[117, 110, 98, 111, 117, 110, 100, 101, 100]⟩ : ByteArray), (⟨#[115, 116, 97, 108, 101]⟩ : ByteArray), (⟨#[108, 111, 111, 112]⟩ : ByteArray)] : List ByteArray)) := ⟨_, rfl⟩
  replace H : (if a0 < 0 then (some (⟨#[]⟩ : ByteArray)) else (if a0 ≥ (y101.length : Int) then (some (⟨#[]⟩ : ByteArray)) else (if 0 ≤ a0 then (if a0 < (y101.length : Int) then (some (rdOf ByteArray.empty y101 a0)) else (none)) else (none)))) = some r := by first | (rw [hy101]; with_reducible exact H) | (have H2_ := (Option.bind_some _ _).symm.trans H; rw [hy101]; with_reducible exact H2_) | (have H2_ := (Option.bind_some _ _).symm.trans H; with_reducible exact H2_) | with_reducible exact H | (rw [hy101]; exact H) | exact H
  have Ny101 := Aside0.mk hy101
  clear hy101
  by_cases c2 : a0 < 0
  · rw [if_pos c2] at H
    have c2b0 : decide (a0 < 0) = true := decide_eq_true c2
    clear c2
    obtain rfl := Option.some.inj H
    go_enter Try.func16, Try.ntmps16
    go_wp2_with (first | ((with_reducible refine gate_dst (N := 4) rfl ?_); (try (refine gate_guard (by rfl) ?_; dsimp only)); refine Kd.R_lit Kd.string _ 9 ?hg (N := 4) ?hd (xs := ([(⟨#[111, 107]⟩ : ByteArray), (⟨#[97, 114, 103, 117, 109, 101, 110, 116]⟩ : ByteArray), (⟨#[114, 97, 110, 103, 101]⟩ : ByteArray), (⟨#[115, 121, 110, 116, 97, 120]⟩ : ByteArray), (⟨#[102, 111, 114, 109]⟩ : ByteArray), (⟨#[115, 117, 109]⟩ : ByteArray), (⟨#[108, 105, 109, 105, 116]⟩ : ByteArray), (⟨#[115, 116, 97, 116, 101]⟩ : ByteArray), (⟨#[110, 111, 110, 101]⟩ : ByteArray), (⟨#[100, 117, 112, 108, 105, 99, 97, 116, 101]⟩ : ByteArray), (⟨#[100, 105, 118, 105, 100, 101]⟩ : ByteArray), (⟨#[117, 110, 114, 101, 97, 99, 104, 97, 98, 108, 101]⟩ : ByteArray), (⟨#[99, 97, 112, 97, 99, 105, 116, 121]⟩ : ByteArray), (⟨#[105, 110, 102, 101, 97, 115, 105, 98, 108, 101]⟩ : ByteArray), (⟨#[117, 110, 98, 111, 117, 110, 100, 101, 100]⟩ : ByteArray), (⟨#[115, 116, 97, 108, 101]⟩ : ByteArray), (⟨#[108, 111, 111, 112]⟩ : ByteArray)] : List ByteArray)) (inner := [.string (⟨#[111, 107]⟩ : ByteArray), .string (⟨#[97, 114, 103, 117, 109, 101, 110, 116]⟩ : ByteArray), .string (⟨#[114, 97, 110, 103, 101]⟩ : ByteArray), .string (⟨#[115, 121, 110, 116, 97, 120]⟩ : ByteArray), .string (⟨#[102, 111, 114, 109]⟩ : ByteArray), .string (⟨#[115, 117, 109]⟩ : ByteArray), .string (⟨#[108, 105, 109, 105, 116]⟩ : ByteArray), .string (⟨#[115, 116, 97, 116, 101]⟩ : ByteArray), .string (⟨#[110, 111, 110, 101]⟩ : ByteArray), .string (⟨#[100, 117, 112, 108, 105, 99, 97, 116, 101]⟩ : ByteArray), .string (⟨#[100, 105, 118, 105, 100, 101]⟩ : ByteArray), .string (⟨#[117, 110, 114, 101, 97, 99, 104, 97, 98, 108, 101]⟩ : ByteArray), .string (⟨#[99, 97, 112, 97, 99, 105, 116, 121]⟩ : ByteArray), .string (⟨#[105, 110, 102, 101, 97, 115, 105, 98, 108, 101]⟩ : ByteArray), .string (⟨#[117, 110, 98, 111, 117, 110, 100, 101, 100]⟩ : ByteArray), .string (⟨#[115, 116, 97, 108, 101]⟩ : ByteArray), .string (⟨#[108, 111, 111, 112]⟩ : ByteArray)]) (ok := fun _ => True) (okp := fun _ => True) ?hr ?hp (fun _ hk => hk) trivial (Below.refl _ _) (Nat.le_refl _) (by simp) ?_; (case hd => rfl); (case hg => rfl); (case hr => first | (go_simp; done) | (go_simp; rfl)); (case hp => exact (Reps.one (show Kd.M Kd.string _ _ _ (⟨#[111, 107]⟩ : ByteArray) [.string (⟨#[111, 107]⟩ : ByteArray)] from rfl) (Reps.one (show Kd.M Kd.string _ _ _ (⟨#[97, 114, 103, 117, 109, 101, 110, 116]⟩ : ByteArray) [.string (⟨#[97, 114, 103, 117, 109, 101, 110, 116]⟩ : ByteArray)] from rfl) (Reps.one (show Kd.M Kd.string _ _ _ (⟨#[114, 97, 110, 103, 101]⟩ : ByteArray) [.string (⟨#[114, 97, 110, 103, 101]⟩ : ByteArray)] from rfl) (Reps.one (show Kd.M Kd.string _ _ _ (⟨#[115, 121, 110, 116, 97, 120]⟩ : ByteArray) [.string (⟨#[115, 121, 110, 116, 97, 120]⟩ : ByteArray)] from rfl) (Reps.one (show Kd.M Kd.string _ _ _ (⟨#[102, 111, 114, 109]⟩ : ByteArray) [.string (⟨#[102, 111, 114, 109]⟩ : ByteArray)] from rfl) (Reps.one (show Kd.M Kd.string _ _ _ (⟨#[115, 117, 109]⟩ : ByteArray) [.string (⟨#[115, 117, 109]⟩ : ByteArray)] from rfl) (Reps.one (show Kd.M Kd.string _ _ _ (⟨#[108, 105, 109, 105, 116]⟩ : ByteArray) [.string (⟨#[108, 105, 109, 105, 116]⟩ : ByteArray)] from rfl) (Reps.one (show Kd.M Kd.string _ _ _ (⟨#[115, 116, 97, 116, 101]⟩ : ByteArray) [.string (⟨#[115, 116, 97, 116, 101]⟩ : ByteArray)] from rfl) (Reps.one (show Kd.M Kd.string _ _ _ (⟨#[110, 111, 110, 101]⟩ : ByteArray) [.string (⟨#[110, 111, 110, 101]⟩ : ByteArray)] from rfl) (Reps.one (show Kd.M Kd.string _ _ _ (⟨#[100, 117, 112, 108, 105, 99, 97, 116, 101]⟩ : ByteArray) [.string (⟨#[100, 117, 112, 108, 105, 99, 97, 116, 101]⟩ : ByteArray)] from rfl) (Reps.one (show Kd.M Kd.string _ _ _ (⟨#[100, 105, 118, 105, 100, 101]⟩ : ByteArray) [.string (⟨#[100, 105, 118, 105, 100, 101]⟩ : ByteArray)] from rfl) (Reps.one (show Kd.M Kd.string _ _ _ (⟨#[117, 110, 114, 101, 97, 99, 104, 97, 98, 108, 101]⟩ : ByteArray) [.string (⟨#[117, 110, 114, 101, 97, 99, 104, 97, 98, 108, 101]⟩ : ByteArray)] from rfl) (Reps.one (show Kd.M Kd.string _ _ _ (⟨#[99, 97, 112, 97, 99, 105, 116, 121]⟩ : ByteArray) [.string (⟨#[99, 97, 112, 97, 99, 105, 116, 121]⟩ : ByteArray)] from rfl) (Reps.one (show Kd.M Kd.string _ _ _ (⟨#[105, 110, 102, 101, 97, 115, 105, 98, 108, 101]⟩ : ByteArray) [.string (⟨#[105, 110, 102, 101, 97, 115, 105, 98, 108, 101]⟩ : ByteArray)] from rfl) (Reps.one (show Kd.M Kd.string _ _ _ (⟨#[117, 110, 98, 111, 117, 110, 100, 101, 100]⟩ : ByteArray) [.string (⟨#[117, 110, 98, 111, 117, 110, 100, 101, 100]⟩ : ByteArray)] from rfl) (Reps.one (show Kd.M Kd.string _ _ _ (⟨#[115, 116, 97, 108, 101]⟩ : ByteArray) [.string (⟨#[115, 116, 97, 108, 101]⟩ : ByteArray)] from rfl) (Reps.one (show Kd.M Kd.string _ _ _ (⟨#[108, 111, 111, 112]⟩ : ByteArray) [.string (⟨#[108, 111, 111, 112]⟩ : ByteArray)] from rfl) (Reps.none _ _))))))))))))))))))); intro v102 w3 ho4 hb hg_ hnew_; clear hg_ hnew_; (first | rw [← Ny101.out] at ho4 | (simp only [Int.reduceToNat] at ho4; rw [← Ny101.out] at ho4)); have n0_ := Aside0.mk (Kd.R_lower ho4 (below_size (by repeat (first | (with_reducible first | exact HB.out | apply below_alloc | apply pw_below_drewN | apply below_drew1) | exact HB.out)))); have n1_ := Aside0.mk (below_step (by repeat (first | (with_reducible first | exact HB.out | apply below_alloc | apply pw_below_drewN | apply below_drew1) | exact HB.out)) hb); clear HB; have HO103 := n0_; have HB := n1_; clear n0_ n1_; clear hb ho4))
    go_ret
    exact ⟨by first | rfl | (simp [errW_none, errW_some] <;> rfl) | (simp [*, errW_none, errW_some] <;> rfl), by repeat (first | (with_reducible first | exact HB.out | apply below_alloc | apply pw_below_drewN | apply below_drew1) | exact HB.out)⟩
  · rw [if_neg c2] at H
    have c2b0 : decide (a0 < 0) = false := decide_eq_false c2
    clear c2
    by_cases c5 : a0 ≥ (y101.length : Int)
    · rw [if_pos c5] at H
      have c5b0 : decide ((y101.length : Int) ≤ a0) = true := decide_eq_true c5
      clear c5
      obtain rfl := Option.some.inj H
      go_enter Try.func16, Try.ntmps16
      go_wp2_with (first | ((with_reducible refine gate_dst (N := 4) rfl ?_); (try (refine gate_guard (by rfl) ?_; dsimp only)); refine Kd.R_lit Kd.string _ 9 ?hg (N := 4) ?hd (xs := ([(⟨#[111, 107]⟩ : ByteArray), (⟨#[97, 114, 103, 117, 109, 101, 110, 116]⟩ : ByteArray), (⟨#[114, 97, 110, 103, 101]⟩ : ByteArray), (⟨#[115, 121, 110, 116, 97, 120]⟩ : ByteArray), (⟨#[102, 111, 114, 109]⟩ : ByteArray), (⟨#[115, 117, 109]⟩ : ByteArray), (⟨#[108, 105, 109, 105, 116]⟩ : ByteArray), (⟨#[115, 116, 97, 116, 101]⟩ : ByteArray), (⟨#[110, 111, 110, 101]⟩ : ByteArray), (⟨#[100, 117, 112, 108, 105, 99, 97, 116, 101]⟩ : ByteArray), (⟨#[100, 105, 118, 105, 100, 101]⟩ : ByteArray), (⟨#[117, 110, 114, 101, 97, 99, 104, 97, 98, 108, 101]⟩ : ByteArray), (⟨#[99, 97, 112, 97, 99, 105, 116, 121]⟩ : ByteArray), (⟨#[105, 110, 102, 101, 97, 115, 105, 98, 108, 101]⟩ : ByteArray), (⟨#[117, 110, 98, 111, 117, 110, 100, 101, 100]⟩ : ByteArray), (⟨#[115, 116, 97, 108, 101]⟩ : ByteArray), (⟨#[108, 111, 111, 112]⟩ : ByteArray)] : List ByteArray)) (inner := [.string (⟨#[111, 107]⟩ : ByteArray), .string (⟨#[97, 114, 103, 117, 109, 101, 110, 116]⟩ : ByteArray), .string (⟨#[114, 97, 110, 103, 101]⟩ : ByteArray), .string (⟨#[115, 121, 110, 116, 97, 120]⟩ : ByteArray), .string (⟨#[102, 111, 114, 109]⟩ : ByteArray), .string (⟨#[115, 117, 109]⟩ : ByteArray), .string (⟨#[108, 105, 109, 105, 116]⟩ : ByteArray), .string (⟨#[115, 116, 97, 116, 101]⟩ : ByteArray), .string (⟨#[110, 111, 110, 101]⟩ : ByteArray), .string (⟨#[100, 117, 112, 108, 105, 99, 97, 116, 101]⟩ : ByteArray), .string (⟨#[100, 105, 118, 105, 100, 101]⟩ : ByteArray), .string (⟨#[117, 110, 114, 101, 97, 99, 104, 97, 98, 108, 101]⟩ : ByteArray), .string (⟨#[99, 97, 112, 97, 99, 105, 116, 121]⟩ : ByteArray), .string (⟨#[105, 110, 102, 101, 97, 115, 105, 98, 108, 101]⟩ : ByteArray), .string (⟨#[117, 110, 98, 111, 117, 110, 100, 101, 100]⟩ : ByteArray), .string (⟨#[115, 116, 97, 108, 101]⟩ : ByteArray), .string (⟨#[108, 111, 111, 112]⟩ : ByteArray)]) (ok := fun _ => True) (okp := fun _ => True) ?hr ?hp (fun _ hk => hk) trivial (Below.refl _ _) (Nat.le_refl _) (by simp) ?_; (case hd => rfl); (case hg => rfl); (case hr => first | (go_simp; done) | (go_simp; rfl)); (case hp => exact (Reps.one (show Kd.M Kd.string _ _ _ (⟨#[111, 107]⟩ : ByteArray) [.string (⟨#[111, 107]⟩ : ByteArray)] from rfl) (Reps.one (show Kd.M Kd.string _ _ _ (⟨#[97, 114, 103, 117, 109, 101, 110, 116]⟩ : ByteArray) [.string (⟨#[97, 114, 103, 117, 109, 101, 110, 116]⟩ : ByteArray)] from rfl) (Reps.one (show Kd.M Kd.string _ _ _ (⟨#[114, 97, 110, 103, 101]⟩ : ByteArray) [.string (⟨#[114, 97, 110, 103, 101]⟩ : ByteArray)] from rfl) (Reps.one (show Kd.M Kd.string _ _ _ (⟨#[115, 121, 110, 116, 97, 120]⟩ : ByteArray) [.string (⟨#[115, 121, 110, 116, 97, 120]⟩ : ByteArray)] from rfl) (Reps.one (show Kd.M Kd.string _ _ _ (⟨#[102, 111, 114, 109]⟩ : ByteArray) [.string (⟨#[102, 111, 114, 109]⟩ : ByteArray)] from rfl) (Reps.one (show Kd.M Kd.string _ _ _ (⟨#[115, 117, 109]⟩ : ByteArray) [.string (⟨#[115, 117, 109]⟩ : ByteArray)] from rfl) (Reps.one (show Kd.M Kd.string _ _ _ (⟨#[108, 105, 109, 105, 116]⟩ : ByteArray) [.string (⟨#[108, 105, 109, 105, 116]⟩ : ByteArray)] from rfl) (Reps.one (show Kd.M Kd.string _ _ _ (⟨#[115, 116, 97, 116, 101]⟩ : ByteArray) [.string (⟨#[115, 116, 97, 116, 101]⟩ : ByteArray)] from rfl) (Reps.one (show Kd.M Kd.string _ _ _ (⟨#[110, 111, 110, 101]⟩ : ByteArray) [.string (⟨#[110, 111, 110, 101]⟩ : ByteArray)] from rfl) (Reps.one (show Kd.M Kd.string _ _ _ (⟨#[100, 117, 112, 108, 105, 99, 97, 116, 101]⟩ : ByteArray) [.string (⟨#[100, 117, 112, 108, 105, 99, 97, 116, 101]⟩ : ByteArray)] from rfl) (Reps.one (show Kd.M Kd.string _ _ _ (⟨#[100, 105, 118, 105, 100, 101]⟩ : ByteArray) [.string (⟨#[100, 105, 118, 105, 100, 101]⟩ : ByteArray)] from rfl) (Reps.one (show Kd.M Kd.string _ _ _ (⟨#[117, 110, 114, 101, 97, 99, 104, 97, 98, 108, 101]⟩ : ByteArray) [.string (⟨#[117, 110, 114, 101, 97, 99, 104, 97, 98, 108, 101]⟩ : ByteArray)] from rfl) (Reps.one (show Kd.M Kd.string _ _ _ (⟨#[99, 97, 112, 97, 99, 105, 116, 121]⟩ : ByteArray) [.string (⟨#[99, 97, 112, 97, 99, 105, 116, 121]⟩ : ByteArray)] from rfl) (Reps.one (show Kd.M Kd.string _ _ _ (⟨#[105, 110, 102, 101, 97, 115, 105, 98, 108, 101]⟩ : ByteArray) [.string (⟨#[105, 110, 102, 101, 97, 115, 105, 98, 108, 101]⟩ : ByteArray)] from rfl) (Reps.one (show Kd.M Kd.string _ _ _ (⟨#[117, 110, 98, 111, 117, 110, 100, 101, 100]⟩ : ByteArray) [.string (⟨#[117, 110, 98, 111, 117, 110, 100, 101, 100]⟩ : ByteArray)] from rfl) (Reps.one (show Kd.M Kd.string _ _ _ (⟨#[115, 116, 97, 108, 101]⟩ : ByteArray) [.string (⟨#[115, 116, 97, 108, 101]⟩ : ByteArray)] from rfl) (Reps.one (show Kd.M Kd.string _ _ _ (⟨#[108, 111, 111, 112]⟩ : ByteArray) [.string (⟨#[108, 111, 111, 112]⟩ : ByteArray)] from rfl) (Reps.none _ _))))))))))))))))))); intro v102 w6 ho7 hb hg_ hnew_; clear hg_ hnew_; (first | rw [← Ny101.out] at ho7 | (simp only [Int.reduceToNat] at ho7; rw [← Ny101.out] at ho7)); have n0_ := Aside0.mk (Kd.R_lower ho7 (below_size (by repeat (first | (with_reducible first | exact HB.out | apply below_alloc | apply pw_below_drewN | apply below_drew1) | exact HB.out)))); have n1_ := Aside0.mk (below_step (by repeat (first | (with_reducible first | exact HB.out | apply below_alloc | apply pw_below_drewN | apply below_drew1) | exact HB.out)) hb); clear HB; have HO103 := n0_; have HB := n1_; clear n0_ n1_; clear hb ho7; obtain ⟨Ao8, co8, eo8⟩ := Kd.R_slice HO103.out; subst eo8))
      go_ret
      exact ⟨by first | rfl | (simp [errW_none, errW_some] <;> rfl) | (simp [*, errW_none, errW_some] <;> rfl), by repeat (first | (with_reducible first | exact HB.out | apply below_alloc | apply pw_below_drewN | apply below_drew1) | exact HB.out)⟩
    · rw [if_neg c5] at H
      have c5b0 : decide ((y101.length : Int) ≤ a0) = false := decide_eq_false c5
      clear c5
      by_cases c9 : 0 ≤ a0
      · rw [if_pos c9] at H
        have c9b0 : decide (0 ≤ a0) = true := decide_eq_true c9
        clear c9
        by_cases c10 : a0 < (y101.length : Int)
        · rw [if_pos c10] at H
          have c10b0 : decide (a0 < (y101.length : Int)) = true := decide_eq_true c10
          clear c10
          obtain rfl := Option.some.inj H
          go_enter Try.func16, Try.ntmps16
          go_wp2_with (first | ((with_reducible refine gate_dst (N := 4) rfl ?_); (try (refine gate_guard (by rfl) ?_; dsimp only)); refine Kd.R_lit Kd.string _ 9 ?hg (N := 4) ?hd (xs := ([(⟨#[111, 107]⟩ : ByteArray), (⟨#[97, 114, 103, 117, 109, 101, 110, 116]⟩ : ByteArray), (⟨#[114, 97, 110, 103, 101]⟩ : ByteArray), (⟨#[115, 121, 110, 116, 97, 120]⟩ : ByteArray), (⟨#[102, 111, 114, 109]⟩ : ByteArray), (⟨#[115, 117, 109]⟩ : ByteArray), (⟨#[108, 105, 109, 105, 116]⟩ : ByteArray), (⟨#[115, 116, 97, 116, 101]⟩ : ByteArray), (⟨#[110, 111, 110, 101]⟩ : ByteArray), (⟨#[100, 117, 112, 108, 105, 99, 97, 116, 101]⟩ : ByteArray), (⟨#[100, 105, 118, 105, 100, 101]⟩ : ByteArray), (⟨#[117, 110, 114, 101, 97, 99, 104, 97, 98, 108, 101]⟩ : ByteArray), (⟨#[99, 97, 112, 97, 99, 105, 116, 121]⟩ : ByteArray), (⟨#[105, 110, 102, 101, 97, 115, 105, 98, 108, 101]⟩ : ByteArray), (⟨#[117, 110, 98, 111, 117, 110, 100, 101, 100]⟩ : ByteArray), (⟨#[115, 116, 97, 108, 101]⟩ : ByteArray), (⟨#[108, 111, 111, 112]⟩ : ByteArray)] : List ByteArray)) (inner := [.string (⟨#[111, 107]⟩ : ByteArray), .string (⟨#[97, 114, 103, 117, 109, 101, 110, 116]⟩ : ByteArray), .string (⟨#[114, 97, 110, 103, 101]⟩ : ByteArray), .string (⟨#[115, 121, 110, 116, 97, 120]⟩ : ByteArray), .string (⟨#[102, 111, 114, 109]⟩ : ByteArray), .string (⟨#[115, 117, 109]⟩ : ByteArray), .string (⟨#[108, 105, 109, 105, 116]⟩ : ByteArray), .string (⟨#[115, 116, 97, 116, 101]⟩ : ByteArray), .string (⟨#[110, 111, 110, 101]⟩ : ByteArray), .string (⟨#[100, 117, 112, 108, 105, 99, 97, 116, 101]⟩ : ByteArray), .string (⟨#[100, 105, 118, 105, 100, 101]⟩ : ByteArray), .string (⟨#[117, 110, 114, 101, 97, 99, 104, 97, 98, 108, 101]⟩ : ByteArray), .string (⟨#[99, 97, 112, 97, 99, 105, 116, 121]⟩ : ByteArray), .string (⟨#[105, 110, 102, 101, 97, 115, 105, 98, 108, 101]⟩ : ByteArray), .string (⟨#[117, 110, 98, 111, 117, 110, 100, 101, 100]⟩ : ByteArray), .string (⟨#[115, 116, 97, 108, 101]⟩ : ByteArray), .string (⟨#[108, 111, 111, 112]⟩ : ByteArray)]) (ok := fun _ => True) (okp := fun _ => True) ?hr ?hp (fun _ hk => hk) trivial (Below.refl _ _) (Nat.le_refl _) (by simp) ?_; (case hd => rfl); (case hg => rfl); (case hr => first | (go_simp; done) | (go_simp; rfl)); (case hp => exact (Reps.one (show Kd.M Kd.string _ _ _ (⟨#[111, 107]⟩ : ByteArray) [.string (⟨#[111, 107]⟩ : ByteArray)] from rfl) (Reps.one (show Kd.M Kd.string _ _ _ (⟨#[97, 114, 103, 117, 109, 101, 110, 116]⟩ : ByteArray) [.string (⟨#[97, 114, 103, 117, 109, 101, 110, 116]⟩ : ByteArray)] from rfl) (Reps.one (show Kd.M Kd.string _ _ _ (⟨#[114, 97, 110, 103, 101]⟩ : ByteArray) [.string (⟨#[114, 97, 110, 103, 101]⟩ : ByteArray)] from rfl) (Reps.one (show Kd.M Kd.string _ _ _ (⟨#[115, 121, 110, 116, 97, 120]⟩ : ByteArray) [.string (⟨#[115, 121, 110, 116, 97, 120]⟩ : ByteArray)] from rfl) (Reps.one (show Kd.M Kd.string _ _ _ (⟨#[102, 111, 114, 109]⟩ : ByteArray) [.string (⟨#[102, 111, 114, 109]⟩ : ByteArray)] from rfl) (Reps.one (show Kd.M Kd.string _ _ _ (⟨#[115, 117, 109]⟩ : ByteArray) [.string (⟨#[115, 117, 109]⟩ : ByteArray)] from rfl) (Reps.one (show Kd.M Kd.string _ _ _ (⟨#[108, 105, 109, 105, 116]⟩ : ByteArray) [.string (⟨#[108, 105, 109, 105, 116]⟩ : ByteArray)] from rfl) (Reps.one (show Kd.M Kd.string _ _ _ (⟨#[115, 116, 97, 116, 101]⟩ : ByteArray) [.string (⟨#[115, 116, 97, 116, 101]⟩ : ByteArray)] from rfl) (Reps.one (show Kd.M Kd.string _ _ _ (⟨#[110, 111, 110, 101]⟩ : ByteArray) [.string (⟨#[110, 111, 110, 101]⟩ : ByteArray)] from rfl) (Reps.one (show Kd.M Kd.string _ _ _ (⟨#[100, 117, 112, 108, 105, 99, 97, 116, 101]⟩ : ByteArray) [.string (⟨#[100, 117, 112, 108, 105, 99, 97, 116, 101]⟩ : ByteArray)] from rfl) (Reps.one (show Kd.M Kd.string _ _ _ (⟨#[100, 105, 118, 105, 100, 101]⟩ : ByteArray) [.string (⟨#[100, 105, 118, 105, 100, 101]⟩ : ByteArray)] from rfl) (Reps.one (show Kd.M Kd.string _ _ _ (⟨#[117, 110, 114, 101, 97, 99, 104, 97, 98, 108, 101]⟩ : ByteArray) [.string (⟨#[117, 110, 114, 101, 97, 99, 104, 97, 98, 108, 101]⟩ : ByteArray)] from rfl) (Reps.one (show Kd.M Kd.string _ _ _ (⟨#[99, 97, 112, 97, 99, 105, 116, 121]⟩ : ByteArray) [.string (⟨#[99, 97, 112, 97, 99, 105, 116, 121]⟩ : ByteArray)] from rfl) (Reps.one (show Kd.M Kd.string _ _ _ (⟨#[105, 110, 102, 101, 97, 115, 105, 98, 108, 101]⟩ : ByteArray) [.string (⟨#[105, 110, 102, 101, 97, 115, 105, 98, 108, 101]⟩ : ByteArray)] from rfl) (Reps.one (show Kd.M Kd.string _ _ _ (⟨#[117, 110, 98, 111, 117, 110, 100, 101, 100]⟩ : ByteArray) [.string (⟨#[117, 110, 98, 111, 117, 110, 100, 101, 100]⟩ : ByteArray)] from rfl) (Reps.one (show Kd.M Kd.string _ _ _ (⟨#[115, 116, 97, 108, 101]⟩ : ByteArray) [.string (⟨#[115, 116, 97, 108, 101]⟩ : ByteArray)] from rfl) (Reps.one (show Kd.M Kd.string _ _ _ (⟨#[108, 111, 111, 112]⟩ : ByteArray) [.string (⟨#[108, 111, 111, 112]⟩ : ByteArray)] from rfl) (Reps.none _ _))))))))))))))))))); intro v102 w11 ho12 hb hg_ hnew_; clear hg_ hnew_; (first | rw [← Ny101.out] at ho12 | (simp only [Int.reduceToNat] at ho12; rw [← Ny101.out] at ho12)); have n0_ := Aside0.mk (Kd.R_lower ho12 (below_size (by repeat (first | (with_reducible first | exact HB.out | apply below_alloc | apply pw_below_drewN | apply below_drew1) | exact HB.out)))); have n1_ := Aside0.mk (below_step (by repeat (first | (with_reducible first | exact HB.out | apply below_alloc | apply pw_below_drewN | apply below_drew1) | exact HB.out)) hb); clear HB; have HO103 := n0_; have HB := n1_; clear n0_ n1_; clear hb ho12; obtain ⟨Ao13, co13, eo13⟩ := Kd.R_slice HO103.out; subst eo13; have p104 : 0 ≤ (a0 : Int) := of_decide_eq_true (by first | (with_reducible assumption) | assumption); have q104 : a0 < (y101.length : Int) := of_decide_eq_true (by first | (with_reducible assumption) | assumption); obtain ⟨ad104, e104, hx104_0⟩ := Kd.at_string (Kd.R_reads' HO103.out).2.2 a0 p104 q104; cases e104; replace p104 := eq_true p104; replace q104 := eq_true q104))
          go_ret
          exact ⟨by first | rfl | (simp [errW_none, errW_some] <;> rfl) | (simp [*, errW_none, errW_some] <;> rfl), by repeat (first | (with_reducible first | exact HB.out | apply below_alloc | apply pw_below_drewN | apply below_drew1) | exact HB.out)⟩
        · rw [if_neg c10] at H
          exact absurd H (by simp)
      · rw [if_neg c9] at H
        exact absurd H (by simp)

/-! ### waypointlaw58_ConsoleNames: function 3 -/
def waypointlaw58_ConsoleNames.f (a0 : Int) : Option (Bool) := (console_Name.f 0).bind fun t105 => (if t105.toList = ([111, 107] : List UInt8) then ((console_Name.f a0).bind fun t106 => ((waypointref58_Name.f a0).bind fun t107 => (some (t106.toList == t107.toList)))) else (none))
set_option maxHeartbeats 8000000 in
set_option maxRecDepth 100000 in
theorem waypointlaw58_ConsoleNames.calls (a0 : Int) (r : Bool) (w : World) (h : waypointlaw58_ConsoleNames.f a0 = some r) :
    Calls Try.prog 3 #[.int .i64 a0] w fun e w' => e = .returned (.bool r) ∧ Below w.heap.size w w' := by
  have HB := Aside0.mk (Below.refl w.heap.size w)
  have H : ((console_Name.f 0).bind fun t105 => (if t105.toList = ([111, 107] : List UInt8) then ((console_Name.f a0).bind fun t106 => ((waypointref58_Name.f a0).bind fun t107 => (some (t106.toList == t107.toList)))) else (none))) = some r := h
  clear h
  replace H := Option.bind_eq_some_iff.mp H
  obtain ⟨t105, A20, H⟩ := H
  replace H : (if t105.toList = ([111, 107] : List UInt8) then ((console_Name.f a0).bind fun t106 => ((waypointref58_Name.f a0).bind fun t107 => (some (t106.toList == t107.toList)))) else (none)) = some r := H
  have A2 := Aside0.mk A20
  clear A20
  by_cases c3 : t105.toList = ([111, 107] : List UInt8)
  · rw [if_pos c3] at H
    have c3b0 : (t105.toList == ([111, 107] : List UInt8)) = true := beq_iff_eq.mpr c3
    have c3b1 : (t105.toList != ([111, 107] : List UInt8)) = false := bne_eq_false_iff_eq.mpr c3
    clear c3
    replace H := Option.bind_eq_some_iff.mp H
    obtain ⟨t106, A40, H⟩ := H
    replace H : ((waypointref58_Name.f a0).bind fun t107 => (some (t106.toList == t107.toList))) = some r := H
    have A4 := Aside0.mk A40
    clear A40
    replace H := Option.bind_eq_some_iff.mp H
    obtain ⟨t107, A50, H⟩ := H
    replace H : (some (t106.toList == t107.toList)) = some r := H
    have A5 := Aside0.mk A50
    clear A50
    obtain rfl := Option.some.inj H
    go_enter Try.func3, Try.ntmps3
    go_wp2_with (first | ((with_reducible refine gate_callee (f := 15) rfl ?_); refine goesL_ (some 3) rfl rfl Try.func15 (by kernel_rfl) rfl #[.int .i64 0] rfl (by (try simp only [List.map_toArray, List.map_cons, List.map_nil]); first | done | rfl | (simp only [List.length_drop, List.length_take]; rfl)) ?_; (with_reducible refine (console_Name.calls 0 t105 _ A2.out).mono ?_); rintro e w6 ⟨rfl, hb⟩; refine ⟨_, rfl, ?_⟩; have n0_ := Aside0.mk (below_step (by repeat (first | (with_reducible first | exact HB.out | apply below_alloc | apply pw_below_drewN | apply below_drew1) | exact HB.out)) hb); clear HB; have HB := n0_; clear n0_; (try clear hb); (try clear hb2); (try clear hk); (try clear hi)) | (go_at_call 15; (with_reducible refine (console_Name.calls a0 t106 _ A4.out).mono ?_); rintro e w7 ⟨rfl, hb⟩; have n0_ := Aside0.mk (below_step (by repeat (first | (with_reducible first | exact HB.out | apply below_alloc | apply pw_below_drewN | apply below_drew1) | exact HB.out)) hb); clear HB; have HB := n0_; clear n0_; (try clear hb); (try clear hb2); (try clear hk); (try clear hi)) | (go_at_call 16; (with_reducible refine (waypointref58_Name.calls a0 t107 _ A5.out).mono ?_); rintro e w8 ⟨rfl, hb⟩; have n0_ := Aside0.mk (below_step (by repeat (first | (with_reducible first | exact HB.out | apply below_alloc | apply pw_below_drewN | apply below_drew1) | exact HB.out)) hb); clear HB; have HB := n0_; clear n0_; (try clear hb); (try clear hb2); (try clear hk); (try clear hi)))
    go_ret
    exact ⟨by first | rfl | (simp [errW_none, errW_some] <;> rfl) | (simp [*, errW_none, errW_some] <;> rfl), by repeat (first | (with_reducible first | exact HB.out | apply below_alloc | apply pw_below_drewN | apply below_drew1) | exact HB.out)⟩
  · rw [if_neg c3] at H
    exact absurd H (by simp)

end Go.Proofs.Ytddklmefighilaa.HNames
