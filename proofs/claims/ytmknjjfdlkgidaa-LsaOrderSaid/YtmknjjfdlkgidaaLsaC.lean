/-
  The order of byte strings.
-/
import Derived.Lib.Bytealg
namespace Go.Proofs.Ytmknjjfdlkgidaa.LC
open Go
theorem cmp_self : ∀ a : List UInt8, Lib.compareBytes a a = 0
  | [] => rfl
  | x :: a => by simp [Lib.compareBytes, cmp_self a]
theorem lt_irrefl' (x : UInt8) : ¬ x < x := fun h => by have := UInt8.lt_iff_toNat_lt.mp h; omega
theorem lt_asymm' {x y : UInt8} (h : x < y) : ¬ y < x := fun h' => by have := UInt8.lt_iff_toNat_lt.mp h; have := UInt8.lt_iff_toNat_lt.mp h'; omega
theorem eq_of' {x y : UInt8} (h : ¬ x < y) (h' : ¬ y < x) : x = y := by
  apply UInt8.toNat_inj.mp
  have h1 : ¬ x.toNat < y.toNat := fun e => h (UInt8.lt_iff_toNat_lt.mpr e)
  have h2 : ¬ y.toNat < x.toNat := fun e => h' (UInt8.lt_iff_toNat_lt.mpr e)
  omega
theorem lt_trans' {x y z : UInt8} (h : x < y) (h' : y < z) : x < z := by
  have := UInt8.lt_iff_toNat_lt.mp h; have := UInt8.lt_iff_toNat_lt.mp h'
  exact UInt8.lt_iff_toNat_lt.mpr (by omega)
theorem cmp_range : ∀ a b : List UInt8, Lib.compareBytes a b = -1 ∨ Lib.compareBytes a b = 0 ∨ Lib.compareBytes a b = 1
  | [], [] => by simp [Lib.compareBytes]
  | [], _ :: _ => by simp [Lib.compareBytes]
  | _ :: _, [] => by simp [Lib.compareBytes]
  | x :: a, y :: b => by
    simp only [Lib.compareBytes]
    split
    · simp
    · split
      · simp
      · exact cmp_range a b
theorem cmp_swap : ∀ a b : List UInt8, Lib.compareBytes b a = - Lib.compareBytes a b
  | [], [] => rfl
  | [], _ :: _ => rfl
  | _ :: _, [] => rfl
  | x :: a, y :: b => by
    simp only [Lib.compareBytes]
    by_cases h : x < y
    · rw [if_pos h, if_neg (lt_asymm' h), if_pos h]; decide
    · rw [if_neg h]
      by_cases h' : y < x
      · rw [if_pos h', if_neg h, if_pos h']
      · rw [if_neg h', if_neg h', if_neg h]
        exact cmp_swap a b
theorem cmp_zero : ∀ {a b : List UInt8}, Lib.compareBytes a b = 0 → a = b
  | [], [], _ => rfl
  | [], _ :: _, h => by simp [Lib.compareBytes] at h
  | _ :: _, [], h => by simp [Lib.compareBytes] at h
  | x :: a, y :: b, h => by
    simp only [Lib.compareBytes] at h
    split at h
    · simp at h
    · split at h
      · simp at h
      · rename_i h1 h2
        rw [eq_of' h1 h2, cmp_zero h]
/-- Greater, or equal, and greater, or equal: greater, or equal; equal just where both are. -/
theorem cmp_trans : ∀ {a b c : List UInt8}, 0 ≤ Lib.compareBytes a b → 0 ≤ Lib.compareBytes b c → 0 ≤ Lib.compareBytes a c ∧ (Lib.compareBytes a b + Lib.compareBytes b c = 0 ↔ Lib.compareBytes a c = 0)
  | a, b, c, h1, h2 => by
    by_cases e1 : Lib.compareBytes a b = 0
    · obtain rfl := cmp_zero e1
      rw [e1]; exact ⟨h2, by omega⟩
    by_cases e2 : Lib.compareBytes b c = 0
    · obtain rfl := cmp_zero e2
      rw [e2]; exact ⟨h1, by omega⟩
    have p1 : Lib.compareBytes a b = 1 := by have := cmp_range a b; omega
    have p2 : Lib.compareBytes b c = 1 := by have := cmp_range b c; omega
    have key : ∀ {a b c : List UInt8}, Lib.compareBytes a b = 1 → Lib.compareBytes b c = 1 → Lib.compareBytes a c = 1 := by
      intro a
      induction a with
      | nil => intro b c h; cases b <;> simp [Lib.compareBytes] at h
      | cons x a ih =>
        intro b c h h'
        match b, c, h, h' with
        | [], [], _, h' => simp [Lib.compareBytes] at h'
        | [], _ :: _, _, h' => simp [Lib.compareBytes] at h'
        | _ :: _, [], _, _ => rfl
        | y :: b, z :: c, h, h' =>
          simp only [Lib.compareBytes] at h h' ⊢
          by_cases c1 : x < y
          · rw [if_pos c1] at h; simp at h
          · rw [if_neg c1] at h
            by_cases c2 : y < z
            · rw [if_pos c2] at h'; simp at h'
            · rw [if_neg c2] at h'
              by_cases d1 : y < x
              · by_cases d2 : z < y
                · have d3 := lt_trans' d2 d1
                  rw [if_neg (lt_asymm' d3), if_pos d3]
                · obtain rfl := eq_of' c2 d2
                  rw [if_neg c1, if_pos d1]
              · obtain rfl := eq_of' c1 d1
                rw [if_neg d1] at h
                by_cases d2 : z < x
                · rw [if_neg c2, if_pos d2]
                · rw [if_neg d2] at h'
                  rw [if_neg c2, if_neg d2]
                  exact ih h h'
    have p3 := key p1 p2
    rw [p3, p1, p2]
    exact ⟨by omega, by omega⟩
theorem dec_iff {b : Bool} {p : Prop} [Decidable p] (h : b = true ↔ p) : b = decide p := by
  cases b with
  | true => exact (decide_eq_true (h.1 rfl)).symm
  | false => exact (decide_eq_false (fun hp => by have := h.2 hp; cases this)).symm
theorem less_iff : ∀ a b : List UInt8, Op.bytesLess a b = true ↔ Lib.compareBytes a b = -1
  | [], [] => by simp [Op.bytesLess, Lib.compareBytes]
  | [], _ :: _ => by simp [Op.bytesLess, Lib.compareBytes]
  | _ :: _, [] => by simp [Op.bytesLess, Lib.compareBytes]
  | x :: a, y :: b => by
    simp only [Op.bytesLess, Lib.compareBytes]
    by_cases h : x < y
    · simp [h]
    · rw [if_neg h]
      by_cases h' : y < x
      · have hne : (x == y) = false := by rw [beq_eq_false_iff_ne]; rintro rfl; exact h h'
        rw [if_pos h', hne]; simp [h]
      · obtain rfl := eq_of' h h'
        rw [if_neg h]
        simpa [h] using less_iff a b
theorem less_cmp (a b : List UInt8) : Op.bytesLess a b = decide (Lib.compareBytes a b = -1) := dec_iff (less_iff a b)
end Go.Proofs.Ytmknjjfdlkgidaa.LC
