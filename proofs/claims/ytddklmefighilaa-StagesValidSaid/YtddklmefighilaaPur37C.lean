/-
  The plain laws of chapter 37 (stages): what Valid, Tick and the reference's Tick compute.
-/
import Derived.Test.YtddklmefighilaaHStagesx
namespace Go.Proofs.Ytddklmefighilaa.HStages
open Go.RowKit Go.Proofs.YtddklmefighilaaW.PrintWords Go.Proofs.YtddklmefighilaaW.PrintLast Go.Proofs.YtddklmefighilaaW.PrintMore
set_option linter.unusedVariables false

theorem w64 {n : Int} (h0 : -9223372036854775808 ≤ n) (h : n ≤ 9223372036854775807) : wrap64 n = n := by unfold wrap64; omega
theorem wf64 {n : Int} (h : (Lit.int .i64 n).wf = true) : -9223372036854775808 ≤ n ∧ n ≤ 9223372036854775807 := by
  simp only [Lit.wf, Bool.and_eq_true, decide_eq_true_eq] at h
  exact h
theorem wf32u {n : Int} (h : (Lit.int .u32 n).wf = true) : 0 ≤ n ∧ n ≤ 4294967295 := by
  simp only [Lit.wf, Bool.and_eq_true, decide_eq_true_eq] at h
  exact h
theorem wf16u {n : Int} (h : (Lit.int .u16 n).wf = true) : 0 ≤ n ∧ n ≤ 65535 := by
  simp only [Lit.wf, Bool.and_eq_true, decide_eq_true_eq] at h
  exact h

/-- A valid stage, under valid timers. -/
def V (s l g h : Int) : Prop := (1 ≤ g ∧ g ≤ 65536 ∧ 1 ≤ h ∧ h ≤ 65536) ∧ ((s = 3 ∧ l = 0) ∨ (s = 0 ∧ 1 ≤ l ∧ l ≤ g) ∨ (s = 2 ∧ 1 ≤ l ∧ l ≤ h))
instance (s l g h : Int) : Decidable (V s l g h) := by unfold V; infer_instance

theorem valid_eq (k : Nat) (s l g h : Int) : stages_Valid.f (k + 1) s l g h = some (decide (V s l g h)) := by
  unfold stages_Valid.f stages_timer.f stages_Valid.j0 V stages_Start.f
  by_cases h1 : g ≥ 1 <;> by_cases h2 : g ≤ 65536 <;> by_cases h3 : h ≥ 1 <;> by_cases h4 : h ≤ 65536 <;> simp [h1, h2, h3, h4] <;> (try omega)
  by_cases c3 : s = 3
  · subst c3
    simp only [if_true]
    by_cases c : l = 0 <;> simp [c] <;> omega
  · rw [if_neg c3]
    by_cases c0 : s = 0
    · subst c0
      simp
      by_cases c : 1 ≤ l <;> simp [c] <;> omega
    · rw [if_neg c0]
      by_cases c2 : s = 2
      · subst c2
        simp
        by_cases c : 1 ≤ l <;> simp [c] <;> omega
      · rw [if_neg c2]
        simp [c0, c2, c3]
theorem rvalid_eq (s l g h : Int) : waypointref37_Valid.f s l g h = some (decide (V s l g h)) := by
  unfold waypointref37_Valid.f waypointref37_Timed.f V
  by_cases h1 : g ≥ 1 <;> by_cases h2 : g ≤ 65536 <;> by_cases h3 : h ≥ 1 <;> by_cases h4 : h ≤ 65536 <;> simp [h1, h2, h3, h4] <;> (try omega)
  by_cases c3 : s = 3
  · subst c3
    by_cases c : l = 0 <;> simp [c] <;> omega
  · rw [if_neg c3]
    by_cases c0 : s = 0
    · subst c0
      simp
      by_cases c : 1 ≤ l <;> simp [c] <;> omega
    · rw [if_neg c0]
      by_cases c2 : s = 2
      · subst c2
        simp
        by_cases c : 1 ≤ l <;> simp [c] <;> omega
      · rw [if_neg c2]
        simp [c0, c2, c3]

/-- n ticks: the stage behind them, and what was entered. -/
def T (s l h n : Int) : Int × Int × List Int :=
  if s = 3 then (3, 0, []) else if n < l then (s, l - n, []) else if s = 2 then (3, 0, [3]) else if n - l < h then (2, h - (n - l), [2]) else (3, 0, [2, 3])

theorem tick_eq (k : Nat) (s l g h n : Int) (hv : V s l g h) (hn : n ≤ 9223372036854775807) : stages_Tick.f (k + 4) s l g h n = some ((T s l h (mx 0 n)).1, (T s l h (mx 0 n)).2.1, (T s l h (mx 0 n)).2.2, 0) := by
  have hd : decide (V s l g h) = true := decide_eq_true hv
  unfold stages_Tick.f
  rw [valid_eq, hd]
  simp only [Option.bind_some, if_true]
  obtain ⟨⟨h1, h2, h3, h4⟩, hs⟩ := hv
  have hm : 0 ≤ mx 0 n ∧ mx 0 n ≤ 9223372036854775807 := by unfold mx; split <;> omega
  generalize mx 0 n = m at hm
  obtain ⟨m0, m1⟩ := hm
  rcases hs with ⟨rfl, rfl⟩ | ⟨rfl, l1, l2⟩ | ⟨rfl, l1, l2⟩
  · simp [stages_Tick.l0, T]
  · simp only [stages_Tick.l0]
    rw [if_neg (by decide)]
    by_cases c : m ≥ l
    · rw [if_pos c]
      simp only [stages_next.f, if_true, Option.bind_some, List.length_nil]
      rw [if_pos (by decide), w64 (by omega) (by omega)]
      by_cases c2 : m - l ≥ h
      · rw [if_neg (by decide), if_pos c2]
        simp [T]
        rw [if_neg (by omega), if_neg (by omega)]
        exact ⟨rfl, rfl, rfl⟩
      · rw [if_neg (by decide), if_neg c2, w64 (by omega) (by omega)]
        unfold T
        rw [if_neg (by decide), if_neg (by omega), if_neg (by decide), if_pos (by omega)]
        simp
    · rw [if_neg c, w64 (by omega) (by omega)]
      unfold T
      rw [if_neg (by decide), if_pos (by omega)]
  · simp only [stages_Tick.l0]
    rw [if_neg (by decide)]
    by_cases c : m ≥ l
    · rw [if_pos c]
      have e : T 2 l h m = (3, 0, [3]) := by unfold T; rw [if_neg (by decide), if_neg (by omega), if_pos rfl]
      rw [e]
      simp [stages_next.f]
    · rw [if_neg c, w64 (by omega) (by omega)]
      unfold T
      rw [if_neg (by decide), if_pos (by omega)]

/-- The ticks that are left. -/
def rest (s l h : Int) : Int := if s = 3 then 0 else if s = 2 then l else l + h

theorem T_zero {s l h : Int} (hs : s = 3 ∧ l = 0 ∨ s ≠ 3 ∧ 1 ≤ l) : T s l h 0 = (s, l, []) := by
  unfold T
  rcases hs with ⟨rfl, rfl⟩ | ⟨c, hl⟩
  · simp
  · rw [if_neg c, if_pos (by omega)]; simp
theorem mx_pos {n : Int} (h : 0 ≤ n) : mx 0 n = n := by unfold mx; split <;> omega
theorem mx_neg {n : Int} (h : n ≤ 0) : mx 0 n = 0 := by unfold mx; split <;> omega

theorem rtick (n g h : Int) (h1 : 1 ≤ h) (h2 : h ≤ 65536) (hn : n ≤ 9223372036854775807) : ∀ (m k : Nat) (s l : Int) (acc : List Int) (i : Int),
    (s = 3 ∧ l = 0 ∨ (s = 0 ∨ s = 2) ∧ 1 ≤ l ∧ l ≤ 65536) → rest s l h = m → 2 * m + 2 ≤ k → acc.length + (if s = 0 then 2 else if s = 2 then 1 else 0) ≤ 10 → 0 ≤ i →
    waypointref37_Tick.l0 k n acc i s l g h = some ((T s l h (mx 0 (n - i))).1, (T s l h (mx 0 (n - i))).2.1, acc ++ (T s l h (mx 0 (n - i))).2.2) := by
  intro m
  induction m with
  | zero =>
    intro k s l acc i hs hr hk ha hi
    obtain ⟨k, rfl⟩ : ∃ j, k = j + 2 := ⟨k - 2, by omega⟩
    rcases hs with ⟨rfl, rfl⟩ | ⟨hs, l1, l2⟩
    · by_cases c : i < n
      · simp only [waypointref37_Tick.l0]; rw [if_pos c]; simp [waypointref37_Tick.j1, T]
      · simp only [waypointref37_Tick.l0]; rw [if_neg c]; simp [waypointref37_Tick.j1, T]
    · exfalso
      unfold rest at hr
      rcases hs with rfl | rfl
      · rw [if_neg (by decide), if_neg (by decide)] at hr; omega
      · rw [if_neg (by decide), if_pos rfl] at hr; omega
  | succ m ih =>
    intro k s l acc i hs hr hk ha hi
    obtain ⟨k, rfl⟩ : ∃ j, k = j + 2 := ⟨k - 2, by omega⟩
    rcases hs with ⟨rfl, rfl⟩ | ⟨hs, l1, l2⟩
    · exfalso
      unfold rest at hr
      rw [if_pos rfl] at hr
      omega
    · have h3 : s ≠ 3 := by rcases hs with rfl | rfl <;> decide
      by_cases c : i < n
      · simp only [waypointref37_Tick.l0]
        rw [if_pos c]
        have e : (s != 3) = true := by simp [h3]
        rw [e]
        simp only [waypointref37_Tick.j1, if_true]
        rw [w64 (by omega) (by omega), w64 (by omega) (by omega)]
        rw [mx_pos (by omega)]
        by_cases cl : l - 1 > 0
        · rw [if_pos cl]
          rw [ih k s (l - 1) acc (i + 1) (.inr ⟨hs, by omega, by omega⟩) (by unfold rest at hr ⊢; rw [if_neg h3] at hr ⊢; split at hr <;> simp_all <;> omega) (by omega) ha (by omega)]
          rw [mx_pos (by omega)]
          have e2 : T s (l - 1) h (n - (i + 1)) = T s l h (n - i) := by
            unfold T
            rw [if_neg h3, if_neg h3]
            by_cases c1 : n - i < l
            · rw [if_pos c1, if_pos (by omega)]
              simp; omega
            · rw [if_neg c1, if_neg (by omega), show n - (i + 1) - (l - 1) = n - i - l by omega]
          rw [e2]
        · rw [if_neg cl]
          obtain rfl : l = 1 := by omega
          rcases hs with rfl | rfl
          · rw [if_pos rfl]
            rw [if_pos rfl] at ha
            rw [if_pos (by omega)]
            rw [ih k 2 h (acc ++ [2]) (i + 1) (.inr ⟨.inr rfl, h1, h2⟩) (by unfold rest at hr ⊢; rw [if_neg (by decide), if_neg (by decide)] at hr; rw [if_neg (by decide), if_pos rfl]; omega) (by omega) (by rw [if_neg (by decide), if_pos rfl]; simp; omega) (by omega)]
            rw [mx_pos (by omega)]
            have e2 : T 0 1 h (n - i) = ((T 2 h h (n - (i + 1))).1, (T 2 h h (n - (i + 1))).2.1, 2 :: (T 2 h h (n - (i + 1))).2.2) := by
              unfold T
              simp only [show ¬ ((0 : Int) = 3) by decide, show ¬ ((0 : Int) = 2) by decide, show ¬ ((2 : Int) = 3) by decide, if_false, if_true]
              rw [if_neg (show ¬ (n - i < 1) by omega)]
              by_cases c2 : n - (i + 1) < h
              · rw [if_pos c2, if_pos (show n - i - 1 < h by omega)]
                simp; omega
              · rw [if_neg c2, if_neg (show ¬ (n - i - 1 < h) by omega)]
            rw [e2]
            simp
          · rw [if_neg (by decide), if_pos (by rw [if_neg (by decide), if_pos rfl] at ha; omega)]
            have hr1 : rest 2 1 h = 1 := by unfold rest; rw [if_neg (by decide), if_pos rfl]
            rw [hr1] at hr
            have hr3 : rest 3 0 h = m := by unfold rest; rw [if_pos rfl]; omega
            rw [if_neg (by decide), if_pos rfl] at ha
            rw [ih k 3 0 (acc ++ [3]) (i + 1) (.inl ⟨rfl, rfl⟩) hr3 (by omega) (by rw [if_neg (by decide), if_neg (by decide)]; simp; omega) (by omega)]
            have e2 : T 2 1 h (n - i) = (3, 0, [3]) := by
              unfold T
              rw [if_neg (by decide), if_neg (by omega), if_pos rfl]
            rw [e2]
            simp [T]
      · simp only [waypointref37_Tick.l0]
        rw [if_neg c, mx_neg (by omega), T_zero (.inr ⟨h3, l1⟩)]
        simp [waypointref37_Tick.j1]

theorem same_l (xs : List Int) (hx : xs.length ≤ 100) : ∀ (d k : Nat) (i : Int), 0 ≤ i → i + d = xs.length → d < k → waypointref37_Same.l0 k xs xs i = some true := by
  intro d
  induction d with
  | zero =>
    intro k i h0 h1 hk
    obtain ⟨k, rfl⟩ : ∃ m, k = m + 1 := ⟨k - 1, by omega⟩
    simp only [waypointref37_Same.l0]
    rw [if_neg (by omega)]
  | succ d ih =>
    intro k i h0 h1 hk
    obtain ⟨k, rfl⟩ : ∃ m, k = m + 1 := ⟨k - 1, by omega⟩
    simp only [waypointref37_Same.l0]
    rw [if_pos (by omega), if_pos h0, if_pos (by omega)]
    simp only [if_true]
    rw [w64 (by omega) (by omega)]
    exact ih k (i + 1) (by omega) (by omega) (by omega)
theorem same_refl (xs : List Int) (hx : xs.length ≤ 100) (k : Nat) (hk : xs.length < k) : waypointref37_Same.f k xs xs = some true := by
  unfold waypointref37_Same.f
  rw [if_pos rfl]
  exact same_l xs hx xs.length k 0 (by omega) (by omega) hk
theorem T_len (s l h n : Int) : (T s l h n).2.2.length ≤ 2 := by
  unfold T
  repeat' split
  all_goals simp
theorem awake_eq (k : Nat) : waypointlaw37_awake.f (k + 20) = some true := by
  have h : waypointlaw37_awake.f 20 = some true := by kernel_rfl
  exact at_rounds (g := waypointlaw37_awake.f) (fun k => waypointlaw37_awake.mono k) (by omega) h
theorem rtick_eq (k : Nat) (s l g h n : Int) (hv : V s l g h) (hn : n ≤ 9223372036854775807) (hk : 300000 ≤ k) : waypointref37_Tick.f k s l g h n = some (T s l h (mx 0 n)) := by
  obtain ⟨⟨h1, h2, h3, h4⟩, hs⟩ := hv
  unfold waypointref37_Tick.f
  have hr : 0 ≤ rest s l h ∧ rest s l h ≤ 131072 := by
    unfold rest
    rcases hs with ⟨rfl, rfl⟩ | ⟨rfl, l1, l2⟩ | ⟨rfl, l1, l2⟩ <;> simp <;> omega
  obtain ⟨m, hm⟩ := Int.eq_ofNat_of_zero_le hr.1
  rw [rtick n g h h3 h4 hn m k s l [] 0 (by rcases hs with ⟨rfl, rfl⟩ | ⟨rfl, l1, l2⟩ | ⟨rfl, l1, l2⟩ <;> omega) hm (by omega) (by simp; split; omega; split <;> omega) (by omega)]
  simp
theorem T_V {s l g h : Int} (hv : V s l g h) {n : Int} (hn : 0 ≤ n) : V (T s l h n).1 (T s l h n).2.1 g h := by
  obtain ⟨ht, hs⟩ := hv
  refine ⟨ht, ?_⟩
  unfold T
  rcases hs with ⟨rfl, rfl⟩ | ⟨rfl, l1, l2⟩ | ⟨rfl, l1, l2⟩
  · simp
  · rw [if_neg (by decide)]
    split
    · exact .inr (.inl ⟨rfl, by simp; omega, by simp; omega⟩)
    · rw [if_neg (by decide)]
      split
      · exact .inr (.inr ⟨rfl, by simp; omega, by simp; omega⟩)
      · exact .inl ⟨rfl, rfl⟩
  · rw [if_neg (by decide)]
    split
    · exact .inr (.inr ⟨rfl, by simp; omega, by simp; omega⟩)
    · rw [if_pos rfl]
      exact .inl ⟨rfl, rfl⟩
theorem T_add {s l g h : Int} (hv : V s l g h) {n m : Int} (hn : 0 ≤ n) (hm : 0 ≤ m) :
    T s l h (n + m) = ((T (T s l h n).1 (T s l h n).2.1 h m).1, (T (T s l h n).1 (T s l h n).2.1 h m).2.1, (T s l h n).2.2 ++ (T (T s l h n).1 (T s l h n).2.1 h m).2.2) := by
  obtain ⟨⟨h1, h2, h3, h4⟩, hs⟩ := hv
  rcases hs with ⟨rfl, rfl⟩ | ⟨rfl, l1, l2⟩ | ⟨rfl, l1, l2⟩
  · simp [T]
  · by_cases c : n < l
    · have e : T 0 l h n = (0, l - n, []) := by unfold T; rw [if_neg (by decide), if_pos c]
      rw [e]
      unfold T
      simp only [show ¬ ((0 : Int) = 3) by decide, if_false]
      by_cases c2 : n + m < l
      · rw [if_pos c2, if_pos (show m < l - n by omega)]
        simp; omega
      · rw [if_neg c2, if_neg (show ¬ (m < l - n) by omega)]
        simp only [show ¬ ((0 : Int) = 2) by decide, if_false]
        by_cases c3 : n + m - l < h
        · rw [if_pos c3, if_pos (show m - (l - n) < h by omega)]; simp; omega
        · rw [if_neg c3, if_neg (show ¬ (m - (l - n) < h) by omega)]; simp
    · by_cases c1 : n - l < h
      · have e : T 0 l h n = (2, h - (n - l), [2]) := by unfold T; rw [if_neg (by decide), if_neg c, if_neg (by decide), if_pos c1]
        rw [e]
        unfold T
        simp only [show ¬ ((0 : Int) = 3) by decide, show ¬ ((0 : Int) = 2) by decide, show ¬ ((2 : Int) = 3) by decide, if_false, if_true]
        rw [if_neg (by omega)]
        by_cases c3 : n + m - l < h
        · rw [if_pos c3, if_pos (by omega)]; simp; omega
        · rw [if_neg c3, if_neg (by omega)]; simp
      · have e : T 0 l h n = (3, 0, [2, 3]) := by unfold T; rw [if_neg (by decide), if_neg c, if_neg (by decide), if_neg c1]
        rw [e]
        unfold T
        simp only [show ¬ ((0 : Int) = 3) by decide, show ¬ ((0 : Int) = 2) by decide, if_false, if_true]
        rw [if_neg (by omega), if_neg (by omega)]
        simp
  · by_cases c : n < l
    · have e : T 2 l h n = (2, l - n, []) := by unfold T; rw [if_neg (by decide), if_pos c]
      rw [e]
      unfold T
      simp only [show ¬ ((2 : Int) = 3) by decide, if_false, if_true]
      by_cases c2 : n + m < l
      · rw [if_pos c2, if_pos (by omega)]
        simp; omega
      · rw [if_neg c2, if_neg (by omega)]; simp
    · have e : T 2 l h n = (3, 0, [3]) := by unfold T; rw [if_neg (by decide), if_neg c, if_pos rfl]
      rw [e]
      unfold T
      simp only [show ¬ ((2 : Int) = 3) by decide, if_false, if_true]
      rw [if_neg (by omega)]
      simp
end Go.Proofs.Ytddklmefighilaa.HStages
