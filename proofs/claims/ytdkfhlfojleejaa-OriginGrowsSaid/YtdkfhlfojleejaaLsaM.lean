/-
  Bytes, records, check sums: plain lists of numbers.
-/
import Derived.Lib.Bytealg
namespace Go.Proofs.Ytdkfhlfojleejaa.LC
open Go
theorem cmp_self : ∀ a : List UInt8, Lib.compareBytes a a = 0
  | [] => rfl
  | x :: a => by simp [Lib.compareBytes, cmp_self a]
theorem lt_irrefl' (x : UInt8) : ¬ x < x := fun h => by have := UInt8.lt_iff_toNat_lt.mp h; omega
theorem lt_asymm' {x y : UInt8} (h : x < y) : ¬ y < x := fun h' => by have := UInt8.lt_iff_toNat_lt.mp h; have := UInt8.lt_iff_toNat_lt.mp h'; omega
theorem eq_of' {x y : UInt8} (h : ¬ x < y) (h' : ¬ y < x) : x = y := by
  apply UInt8.toNat_inj.mp
  have h1 : ¬ x.toNat < y.toNat := fun e => h (UInt8.lt_iff_toNat_lt.mpr e)
  have h2 : ¬ y.toNat < x.toNat := fun e => h' (UInt8.lt_iff_toNat_lt.mpr e)
  omega
theorem lt_trans' {x y z : UInt8} (h : x < y) (h' : y < z) : x < z := by
  have := UInt8.lt_iff_toNat_lt.mp h; have := UInt8.lt_iff_toNat_lt.mp h'
  exact UInt8.lt_iff_toNat_lt.mpr (by omega)
theorem cmp_range : ∀ a b : List UInt8, Lib.compareBytes a b = -1 ∨ Lib.compareBytes a b = 0 ∨ Lib.compareBytes a b = 1
  | [], [] => by simp [Lib.compareBytes]
  | [], _ :: _ => by simp [Lib.compareBytes]
  | _ :: _, [] => by simp [Lib.compareBytes]
  | x :: a, y :: b => by
    simp only [Lib.compareBytes]
    split
    · simp
    · split
      · simp
      · exact cmp_range a b
theorem cmp_swap : ∀ a b : List UInt8, Lib.compareBytes b a = - Lib.compareBytes a b
  | [], [] => rfl
  | [], _ :: _ => rfl
  | _ :: _, [] => rfl
  | x :: a, y :: b => by
    simp only [Lib.compareBytes]
    by_cases h : x < y
    · rw [if_pos h, if_neg (lt_asymm' h), if_pos h]; decide
    · rw [if_neg h]
      by_cases h' : y < x
      · rw [if_pos h', if_neg h, if_pos h']
      · rw [if_neg h', if_neg h', if_neg h]
        exact cmp_swap a b
theorem cmp_zero : ∀ {a b : List UInt8}, Lib.compareBytes a b = 0 → a = b
  | [], [], _ => rfl
  | [], _ :: _, h => by simp [Lib.compareBytes] at h
  | _ :: _, [], h => by simp [Lib.compareBytes] at h
  | x :: a, y :: b, h => by
    simp only [Lib.compareBytes] at h
    split at h
    · simp at h
    · split at h
      · simp at h
      · rename_i h1 h2
        rw [eq_of' h1 h2, cmp_zero h]
/-- Greater, or equal, and greater, or equal: greater, or equal; equal just where both are. -/
theorem cmp_trans : ∀ {a b c : List UInt8}, 0 ≤ Lib.compareBytes a b → 0 ≤ Lib.compareBytes b c → 0 ≤ Lib.compareBytes a c ∧ (Lib.compareBytes a b + Lib.compareBytes b c = 0 ↔ Lib.compareBytes a c = 0)
  | a, b, c, h1, h2 => by
    by_cases e1 : Lib.compareBytes a b = 0
    · obtain rfl := cmp_zero e1
      rw [e1]; exact ⟨h2, by omega⟩
    by_cases e2 : Lib.compareBytes b c = 0
    · obtain rfl := cmp_zero e2
      rw [e2]; exact ⟨h1, by omega⟩
    have p1 : Lib.compareBytes a b = 1 := by have := cmp_range a b; omega
    have p2 : Lib.compareBytes b c = 1 := by have := cmp_range b c; omega
    have key : ∀ {a b c : List UInt8}, Lib.compareBytes a b = 1 → Lib.compareBytes b c = 1 → Lib.compareBytes a c = 1 := by
      intro a
      induction a with
      | nil => intro b c h; cases b <;> simp [Lib.compareBytes] at h
      | cons x a ih =>
        intro b c h h'
        match b, c, h, h' with
        | [], [], _, h' => simp [Lib.compareBytes] at h'
        | [], _ :: _, _, h' => simp [Lib.compareBytes] at h'
        | _ :: _, [], _, _ => rfl
        | y :: b, z :: c, h, h' =>
          simp only [Lib.compareBytes] at h h' ⊢
          by_cases c1 : x < y
          · rw [if_pos c1] at h; simp at h
          · rw [if_neg c1] at h
            by_cases c2 : y < z
            · rw [if_pos c2] at h'; simp at h'
            · rw [if_neg c2] at h'
              by_cases d1 : y < x
              · by_cases d2 : z < y
                · have d3 := lt_trans' d2 d1
                  rw [if_neg (lt_asymm' d3), if_pos d3]
                · obtain rfl := eq_of' c2 d2
                  rw [if_neg c1, if_pos d1]
              · obtain rfl := eq_of' c1 d1
                rw [if_neg d1] at h
                by_cases d2 : z < x
                · rw [if_neg c2, if_pos d2]
                · rw [if_neg d2] at h'
                  rw [if_neg c2, if_neg d2]
                  exact ih h h'
    have p3 := key p1 p2
    rw [p3, p1, p2]
    exact ⟨by omega, by omega⟩
theorem dec_iff {b : Bool} {p : Prop} [Decidable p] (h : b = true ↔ p) : b = decide p := by
  cases b with
  | true => exact (decide_eq_true (h.1 rfl)).symm
  | false => exact (decide_eq_false (fun hp => by have := h.2 hp; cases this)).symm
theorem less_iff : ∀ a b : List UInt8, Op.bytesLess a b = true ↔ Lib.compareBytes a b = -1
  | [], [] => by simp [Op.bytesLess, Lib.compareBytes]
  | [], _ :: _ => by simp [Op.bytesLess, Lib.compareBytes]
  | _ :: _, [] => by simp [Op.bytesLess, Lib.compareBytes]
  | x :: a, y :: b => by
    simp only [Op.bytesLess, Lib.compareBytes]
    by_cases h : x < y
    · simp [h]
    · rw [if_neg h]
      by_cases h' : y < x
      · have hne : (x == y) = false := by rw [beq_eq_false_iff_ne]; rintro rfl; exact h h'
        rw [if_pos h', hne]; simp [h]
      · obtain rfl := eq_of' h h'
        rw [if_neg h]
        simpa [h] using less_iff a b
theorem less_cmp (a b : List UInt8) : Op.bytesLess a b = decide (Lib.compareBytes a b = -1) := dec_iff (less_iff a b)
end Go.Proofs.Ytdkfhlfojleejaa.LC
namespace Go.Proofs.Ytdkfhlfojleejaa.LM
def Bytes (b : List Int) : Prop := ∀ x ∈ b, 0 ≤ x ∧ x ≤ 255
theorem Bytes.nil : Bytes [] := fun _ h => by cases h
theorem Bytes.app {a b : List Int} (h : Bytes a) (k : Bytes b) : Bytes (a ++ b) := fun x hx => by
  rcases List.mem_append.1 hx with hx | hx
  · exact h x hx
  · exact k x hx
theorem Bytes.cons {x : Int} {b : List Int} (h0 : 0 ≤ x) (h1 : x ≤ 255) (k : Bytes b) : Bytes (x :: b) := fun y hy => by
  rcases List.mem_cons.1 hy with rfl | hy
  · exact ⟨h0, h1⟩
  · exact k y hy
theorem Bytes.left {a b : List Int} (h : Bytes (a ++ b)) : Bytes a := fun x hx => h x (List.mem_append_left _ hx)
theorem Bytes.right {a b : List Int} (h : Bytes (a ++ b)) : Bytes b := fun x hx => h x (List.mem_append_right _ hx)
theorem Bytes.drop {b : List Int} (h : Bytes b) (n : Nat) : Bytes (b.drop n) := fun x hx => h x (List.mem_of_mem_drop hx)
theorem Bytes.take {b : List Int} (h : Bytes b) (n : Nat) : Bytes (b.take n) := fun x hx => h x (List.mem_of_mem_take hx)

/-! ### numbers, big-endian -/
def be : Nat → Int → List Int
  | 0, _ => []
  | n + 1, x => be n (x / 256) ++ [x % 256]
theorem be_len : ∀ (n : Nat) (x : Int), (be n x).length = n
  | 0, _ => rfl
  | n + 1, x => by simp [be, be_len n]
theorem be_bytes : ∀ (n : Nat) (x : Int), Bytes (be n x)
  | 0, _ => Bytes.nil
  | n + 1, x => (be_bytes n _).app (Bytes.cons (by omega) (by omega) Bytes.nil)
def ube (b : List Int) : Int := b.foldl (fun n x => n * 256 + x) 0
theorem ube_snoc (b : List Int) (x : Int) : ube (b ++ [x]) = ube b * 256 + x := by simp [ube]
theorem ube_be : ∀ (n : Nat) (x : Int), 0 ≤ x → x < 256 ^ n → ube (be n x) = x
  | 0, x, h0, h1 => by simp at h1; simp [be, ube]; omega
  | n + 1, x, h0, h1 => by
    rw [be, ube_snoc, ube_be n (x / 256) (by omega) (by rw [Int.pow_succ] at h1; omega)]
    omega
theorem snoc_ind {P : List Int → Prop} (h0 : P []) (h1 : ∀ b x, P b → P (b ++ [x])) : ∀ b, P b := by
  intro b
  have : ∀ n (b : List Int), b.length = n → P b := by
    intro n
    induction n with
    | zero => intro b hb; rw [List.eq_nil_of_length_eq_zero hb]; exact h0
    | succ n ih =>
      intro b hb
      have hne : b ≠ [] := by rintro rfl; simp at hb
      rw [← List.dropLast_concat_getLast hne]
      exact h1 _ _ (ih _ (by simp [hb]))
  exact this _ b rfl
theorem ube_nonneg : ∀ b : List Int, Bytes b → 0 ≤ ube b := by
  refine snoc_ind (fun _ => by simp [ube]) ?_
  intro b x ih h
  have h1 := ih h.left
  have h2 := h x (by simp)
  rw [ube_snoc]
  omega
theorem ube_lt : ∀ b : List Int, Bytes b → ube b < 256 ^ b.length := by
  refine snoc_ind (fun _ => by simp [ube]) ?_
  intro b x ih h
  have h1 := ih h.left
  have h2 := h x (by simp)
  rw [ube_snoc, List.length_append, List.length_singleton, Int.pow_succ]
  omega
theorem be_ube : ∀ b : List Int, Bytes b → be b.length (ube b) = b := by
  refine snoc_ind (fun _ => by simp [be]) ?_
  intro b x ih h
  have h1 := ih h.left
  have h2 := h x (by simp)
  rw [ube_snoc, List.length_append, List.length_singleton, be]
  rw [show (ube b * 256 + x) / 256 = ube b by omega, show (ube b * 256 + x) % 256 = x by omega, h1]

/-! ### records -/
abbrev Rec := Int × List Int
def recb (r : Rec) : List Int := r.1 :: ((r.2.length : Int) / 256) :: ((r.2.length : Int) % 256) :: r.2
def cenc (l : List Rec) : List Int := (l.map recb).flatten
theorem cenc_nil : cenc [] = [] := rfl
theorem cenc_cons (r : Rec) (l : List Rec) : cenc (r :: l) = recb r ++ cenc l := rfl
theorem cenc_app (l m : List Rec) : cenc (l ++ m) = cenc l ++ cenc m := by simp [cenc]
/-- A record that can be encoded. -/
def GoodR (r : Rec) : Prop := 1 ≤ r.1 ∧ r.1 ≤ 255 ∧ r.2.length ≤ 65535 ∧ Bytes r.2
theorem recb_bytes {r : Rec} (h : GoodR r) : Bytes (recb r) := by
  obtain ⟨h1, h2, h3, h4⟩ := h
  exact Bytes.cons (by omega) h2 (Bytes.cons (by omega) (by omega) (Bytes.cons (by omega) (by omega) h4))
theorem cenc_bytes : ∀ {l : List Rec}, (∀ r ∈ l, GoodR r) → Bytes (cenc l)
  | [], _ => Bytes.nil
  | r :: l, h => (recb_bytes (h r (by simp))).app (cenc_bytes fun r' hr => h r' (by simp [hr]))
/-- One record off the front: how many bytes its value has; none: no record begins here. -/
def front (b : List Int) : Option Nat :=
  match b with
  | t :: h :: l :: rest => if t = 0 then none else if (rest.length : Int) < h * 256 + l then none else some (h * 256 + l).toNat
  | _ => none
def parse : Nat → List Int → Option (List Rec)
  | _, [] => some []
  | 0, _ => none
  | k + 1, b => match front b with
    | none => none
    | some n => (parse k (b.drop (3 + n))).map ((b.headD 0, (b.drop 3).take n) :: ·)
theorem parse_nil (k : Nat) : parse k [] = some [] := by cases k <;> rfl
theorem parse_more : ∀ (k : Nat) (b : List Int), b.length ≤ k → parse k b = parse b.length b := by
  have key : ∀ (m : Nat) (b : List Int), b.length ≤ m → ∀ k k', b.length ≤ k → b.length ≤ k' → parse k b = parse k' b := by
    intro m
    induction m with
    | zero =>
      intro b hb k k' _ _
      obtain rfl : b = [] := List.eq_nil_of_length_eq_zero (by omega)
      rw [parse_nil, parse_nil]
    | succ m ih =>
      intro b hb k k' h h'
      match b, hb, h, h' with
      | [], _, _, _ => rw [parse_nil, parse_nil]
      | x :: xs, hb, h, h' =>
        simp only [List.length_cons] at hb h h'
        obtain ⟨k, rfl⟩ : ∃ j, k = j + 1 := ⟨k - 1, by omega⟩
        obtain ⟨k', rfl⟩ : ∃ j, k' = j + 1 := ⟨k' - 1, by omega⟩
        simp only [parse]
        split
        · rfl
        · rename_i n _
          rw [ih ((x :: xs).drop (3 + n)) (by simp; omega) k k' (by simp; omega) (by simp; omega)]
  intro k b h
  exact key b.length b (Nat.le_refl _) k b.length h (Nat.le_refl _)
def records (b : List Int) : Option (List Rec) := parse b.length b
theorem records_cons {r : Rec} (h : GoodR r) (rest : List Int) : records (recb r ++ rest) = (records rest).map (r :: ·) := by
  obtain ⟨t, v⟩ := r
  obtain ⟨h1, h2, h3, h4⟩ := h
  simp only at h1 h2 h3 h4
  unfold records
  simp only [recb, List.cons_append, List.length_cons]
  rw [show ((v ++ rest).length + 1 + 1 + 1) = (v ++ rest).length + 2 + 1 from rfl]
  simp only [parse, front]
  rw [if_neg (by omega), if_neg (by simp only [List.length_append]; omega)]
  simp only
  rw [show ((v.length : Int) / 256 * 256 + (v.length : Int) % 256).toNat = v.length by omega]
  have e1 : (t :: ((v.length : Int) / 256) :: ((v.length : Int) % 256) :: (v ++ rest)).drop (3 + v.length) = rest := by
    rw [Nat.add_comm 3]
    simp [List.drop_succ_cons]
  have e2 : ((t :: ((v.length : Int) / 256) :: ((v.length : Int) % 256) :: (v ++ rest)).drop 3).take v.length = v := by simp
  rw [e1, e2]
  rw [parse_more ((v ++ rest).length + 2) rest (by simp; omega)]
  rfl
theorem records_app : ∀ {l : List Rec}, (∀ r ∈ l, GoodR r) → ∀ rest, records (cenc l ++ rest) = (records rest).map (l ++ ·)
  | [], _, rest => by simp [cenc_nil]
  | r :: l, h, rest => by
    rw [cenc_cons, List.append_assoc, records_cons (h r (by simp)), records_app (fun r' hr => h r' (by simp [hr])) rest]
    cases records rest <;> simp
theorem records_cenc {l : List Rec} (h : ∀ r ∈ l, GoodR r) : records (cenc l) = some l := by
  have := records_app h []
  rw [List.append_nil] at this
  rw [this]
  simp [records, parse]
theorem cenc_len_recb (r : Rec) : (recb r).length = 3 + r.2.length := by simp [recb]; omega

/-! ### check sums -/
def wsum : List Int → Int
  | [] => 0
  | x :: xs => ((xs.length : Int) + 1) * x + wsum xs
def sums (b : List Int) : Int × Int := (b.sum % 255, wsum b % 255)
theorem sum_snoc (b : List Int) (x : Int) : (b ++ [x]).sum = b.sum + x := by simp
theorem wsum_app : ∀ (a b : List Int), wsum (a ++ b) = wsum a + (b.length : Int) * a.sum + wsum b
  | [], b => by simp [wsum]
  | x :: xs, b => by
    simp only [List.cons_append, wsum, wsum_app xs b, List.length_append, List.sum_cons]
    push_cast
    simp only [Int.mul_add, Int.add_mul]
    omega
/-- Two check bytes behind a body. -/
def cx (b : List Int) : Int := (b.sum - wsum (b ++ [0, 0])) % 255
def cy (b : List Int) : Int := (- b.sum - cx b) % 255
def sealed (b : List Int) : List Int := b ++ [cx b, cy b]
theorem cx_range (b : List Int) : 0 ≤ cx b ∧ cx b ≤ 254 := by unfold cx; omega
theorem cy_range (b : List Int) : 0 ≤ cy b ∧ cy b ≤ 254 := by unfold cy; omega
theorem wsum00 (b : List Int) (x y : Int) : wsum (b ++ [x, y]) = wsum b + 2 * b.sum + 2 * x + y := by
  rw [wsum_app]; simp [wsum]; omega
theorem sealed_sums (b : List Int) : sums (sealed b) = (0, 0) := by
  unfold sums sealed
  have h1 : (b ++ [cx b, cy b]).sum = b.sum + cx b + cy b := by simp; omega
  rw [h1, wsum00]
  have hw := wsum00 b 0 0
  unfold cy cx
  rw [hw]
  refine Prod.ext ?_ ?_ <;> simp only <;> omega
/-- The check byte is the only one. -/
theorem cx_only (b : List Int) (x y : Int) (hx : 0 ≤ x ∧ x ≤ 254) (hy : 0 ≤ y ∧ y ≤ 254) (h : sums (b ++ [x, y]) = (0, 0)) : x = cx b ∧ y = cy b := by
  unfold sums at h
  have h1 : (b ++ [x, y]).sum = b.sum + x + y := by simp; omega
  rw [h1, wsum00] at h
  obtain ⟨e1, e2⟩ := Prod.mk.inj h
  have hw := wsum00 b 0 0
  unfold cy cx
  rw [hw]
  omega
theorem sum_set : ∀ (b : List Int) (k : Nat) (v x : Int), b[k]? = some x → (b.set k v).sum = b.sum + v - x
  | [], _, _, _, h => by simp at h
  | y :: ys, 0, v, x, h => by simp at h; subst h; simp; omega
  | y :: ys, k + 1, v, x, h => by
    simp at h
    have := sum_set ys k v x (by simpa using h)
    simp [this]; omega
end Go.Proofs.Ytdkfhlfojleejaa.LM
