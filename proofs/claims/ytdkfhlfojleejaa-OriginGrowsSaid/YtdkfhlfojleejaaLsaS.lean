/-
  Advertisements: which are valid, their records, their bytes, and what is read back.
-/
import Derived.Test.YtdkfhlfojleejaaLsaM
import Derived.Test.YtdkfhlfojleejaaHLscx0
namespace Go.Proofs.Ytdkfhlfojleejaa.LS
open Go.Proofs.Ytdkfhlfojleejaa.LM
abbrev AD := Go.Proofs.Ytdkfhlfojleejaa.HLsc.S72   -- To, Link, Cost
abbrev PF := Go.Proofs.Ytdkfhlfojleejaa.HLsc.S76   -- Addr, Len
structure L where
  o : Int
  s : Int
  age : Int
  ov : Bool
  ad : List AD
  pf : List PF
def L.zero : L := ⟨0, 0, 0, false, [], []⟩
theorem L.ext' {a b : L} (h1 : a.o = b.o) (h2 : a.s = b.s) (h3 : a.age = b.age) (h4 : a.ov = b.ov) (h5 : a.ad = b.ad) (h6 : a.pf = b.pf) : a = b := by cases a; cases b; simp_all
def adOk (o : Int) (x : AD) : Prop := (0 ≤ x.f1 ∧ x.f1 ≤ 255) ∧ (0 ≤ x.f0 ∧ x.f0 ≤ 63) ∧ x.f0 ≠ o ∧ 1 ≤ x.f2 ∧ x.f2 ≤ 65535
def pfOk (p : PF) : Prop := (0 ≤ p.f1 ∧ p.f1 ≤ 32) ∧ (0 ≤ p.f0 ∧ p.f0 ≤ 4294967295) ∧ p.f0 % 2 ^ (32 - p.f1).toNat = 0
def adLt (x y : AD) : Prop := x.f1 < y.f1
def pfLt (x y : PF) : Prop := x.f0 < y.f0 ∨ x.f0 = y.f0 ∧ x.f1 < y.f1
instance (o x) : Decidable (adOk o x) := by unfold adOk; infer_instance
instance (p) : Decidable (pfOk p) := by unfold pfOk; infer_instance
instance (x y) : Decidable (adLt x y) := by unfold adLt; infer_instance
instance (x y) : Decidable (pfLt x y) := by unfold pfLt; infer_instance
/-- Element by element: ok, and greater than the one before. -/
def Row {α : Type} (ok : α → Prop) (lt : α → α → Prop) : Option α → List α → Prop
  | _, [] => True
  | p, x :: l => ok x ∧ (∀ y, p = some y → lt y x) ∧ Row ok lt (some x) l
instance rowDec {α : Type} (ok : α → Prop) (lt : α → α → Prop) [∀ x, Decidable (ok x)] [∀ x y, Decidable (lt x y)] : ∀ (p : Option α) (l : List α), Decidable (Row ok lt p l)
  | _, [] => isTrue trivial
  | p, x :: l =>
    have h1 : Decidable (∀ y, p = some y → lt y x) := match p with
      | none => isTrue (fun y e => by cases e)
      | some z => decidable_of_iff (lt z x) ⟨fun h y e => by cases e; exact h, fun h => h z rfl⟩
    have h2 := rowDec ok lt (some x) l
    by unfold Row; infer_instance
structure Valid (a : L) : Prop where
  o : 0 ≤ a.o ∧ a.o ≤ 63
  s : 1 ≤ a.s ∧ a.s ≤ 1073741824
  age : 0 ≤ a.age ∧ a.age ≤ 3600
  nad : a.ad.length ≤ 256
  npf : a.pf.length ≤ 64
  ad : Row (adOk a.o) adLt none a.ad
  pf : Row pfOk pfLt none a.pf
  purge : a.age = 3600 → a.ov = false ∧ a.ad = [] ∧ a.pf = []
theorem Row.mem {α : Type} {ok : α → Prop} {lt : α → α → Prop} : ∀ {l : List α} {p : Option α}, Row ok lt p l → ∀ {x : α}, x ∈ l → ok x
  | [], _, _, x, hx => by cases hx
  | y :: l, p, h, x, hx => by
    rcases List.mem_cons.1 hx with rfl | hx
    · exact h.1
    · exact Row.mem h.2.2 hx
theorem Valid.iff (a : L) : Valid a ↔ ((0 ≤ a.o ∧ a.o ≤ 63) ∧ (1 ≤ a.s ∧ a.s ≤ 1073741824) ∧ (0 ≤ a.age ∧ a.age ≤ 3600) ∧ a.ad.length ≤ 256 ∧ a.pf.length ≤ 64 ∧ Row (adOk a.o) adLt none a.ad ∧ Row pfOk pfLt none a.pf ∧ (a.age = 3600 → a.ov = false ∧ a.ad.length = 0 ∧ a.pf.length = 0)) :=
  ⟨fun h => ⟨h.o, h.s, h.age, h.nad, h.npf, h.ad, h.pf, fun e => ⟨(h.purge e).1, by rw [(h.purge e).2.1]; rfl, by rw [(h.purge e).2.2]; rfl⟩⟩, fun ⟨h1, h2, h3, h4, h5, h6, h7, h8⟩ => ⟨h1, h2, h3, h4, h5, h6, h7, fun e => ⟨(h8 e).1, List.eq_nil_of_length_eq_zero (h8 e).2.1, List.eq_nil_of_length_eq_zero (h8 e).2.2⟩⟩⟩
instance (a : L) : Decidable (Valid a) := decidable_of_iff _ (Valid.iff a).symm

/-! ### the records -/
def b01 (b : Bool) : Int := if b = true then 1 else 0
def r1 (a : L) : Rec := (1, be 2 a.o ++ be 4 a.s ++ be 2 a.age ++ be 1 (b01 a.ov))
def r2 (x : AD) : Rec := (2, be 2 x.f0 ++ be 2 x.f1 ++ be 2 x.f2)
def r3 (p : PF) : Rec := (3, be 4 p.f0 ++ be 1 p.f1)
def recs (a : L) : List Rec := r1 a :: (a.ad.map r2 ++ a.pf.map r3)
def body (a : L) : List Int := cenc (recs a) ++ [4, 0, 2]
def enc (a : L) : List Int := sealed (body a)
def tail (a : L) : Rec := (4, [cx (body a), cy (body a)])
theorem enc_cenc (a : L) : enc a = cenc (recs a ++ [tail a]) := by
  rw [cenc_app]
  simp [enc, sealed, body, tail, cenc, recb]
theorem good1 (a : L) : GoodR (r1 a) := ⟨by simp [r1], by simp [r1], by simp [r1, be_len], by simp only [r1]; exact (((be_bytes 2 _).app (be_bytes 4 _)).app (be_bytes 2 _)).app (be_bytes 1 _)⟩
theorem good2 (x : AD) : GoodR (r2 x) := ⟨by simp [r2], by simp [r2], by simp [r2, be_len], by simp only [r2]; exact ((be_bytes 2 _).app (be_bytes 2 _)).app (be_bytes 2 _)⟩
theorem good3 (p : PF) : GoodR (r3 p) := ⟨by simp [r3], by simp [r3], by simp [r3, be_len], by simp only [r3]; exact (be_bytes 4 _).app (be_bytes 1 _)⟩
theorem good4 (a : L) : GoodR (tail a) := by
  have h1 := cx_range (body a)
  have h2 := cy_range (body a)
  exact ⟨by simp [tail], by simp [tail], by simp [tail], Bytes.cons h1.1 (by omega) (Bytes.cons h2.1 (by omega) Bytes.nil)⟩
theorem good_recs (a : L) : ∀ r ∈ recs a, GoodR r := by
  intro r hr
  simp only [recs, List.mem_cons, List.mem_append, List.mem_map] at hr
  rcases hr with rfl | ⟨x, _, rfl⟩ | ⟨p, _, rfl⟩
  · exact good1 a
  · exact good2 x
  · exact good3 p
theorem good_all (a : L) : ∀ r ∈ recs a ++ [tail a], GoodR r := by
  intro r hr
  rcases List.mem_append.1 hr with hr | hr
  · exact good_recs a r hr
  · rw [List.mem_singleton.1 hr]; exact good4 a
theorem enc_bytes (a : L) : Bytes (enc a) := by rw [enc_cenc]; exact cenc_bytes (good_all a)
theorem enc_sums (a : L) : sums (enc a) = (0, 0) := sealed_sums _
theorem records_enc (a : L) : records (enc a) = some (recs a ++ [tail a]) := by rw [enc_cenc]; exact records_cenc (good_all a)

/-! ### what the records say -/
theorem take_be (n : Nat) (x : Int) (rest : List Int) : (be n x ++ rest).take n = be n x := by
  have h := be_len n x
  rw [List.take_append_of_le_length (by omega), List.take_of_length_le (by omega)]
theorem drop_be (n : Nat) (x : Int) (rest : List Int) : (be n x ++ rest).drop n = rest := by
  have h := be_len n x
  rw [List.drop_append_of_le_length (by omega), List.drop_of_length_le (by omega), List.nil_append]
def num (v : List Int) (i n : Nat) : Int := ube ((v.drop i).take n)
/-- As the program reads: one record more. -/
def addP (a : L) (r : Rec) : Option L :=
  if r.1 = 1 then (if r.2.length = 9 then some { a with o := num r.2 0 2, s := num r.2 2 4, age := num r.2 6 2, ov := decide (num r.2 8 1 = 1) } else none)
  else if r.1 = 2 then (if r.2.length = 6 then some { a with ad := a.ad ++ [⟨num r.2 0 2, num r.2 2 2, num r.2 4 2⟩] } else none)
  else if r.1 = 3 then (if r.2.length = 5 then some { a with pf := a.pf ++ [⟨num r.2 0 4, num r.2 4 1⟩] } else none)
  else if r.1 = 4 then some a else none
def allP : L → List Rec → Option L
  | a, [] => some a
  | a, r :: l => match addP a r with
    | none => none
    | some b => allP b l
theorem allP_app (l m : List Rec) : ∀ a, allP a (l ++ m) = (allP a l).bind fun b => allP b m := by
  induction l with
  | nil => intro a; rfl
  | cons r l ih =>
    intro a
    simp only [List.cons_append, allP]
    cases addP a r with
    | none => rfl
    | some b => exact ih b
/-- As the reference reads. -/
def addR (i : Nat) (a : L) (r : Rec) : L :=
  if i = 0 ∧ r.1 = 1 ∧ r.2.length = 9 then { a with o := num r.2 0 2, s := num r.2 2 4, age := num r.2 6 2, ov := decide (num r.2 8 1 = 1) }
  else if r.1 = 2 ∧ r.2.length = 6 then { a with ad := a.ad ++ [⟨num r.2 0 2, num r.2 2 2, num r.2 4 2⟩] }
  else if r.1 = 3 ∧ r.2.length = 5 then { a with pf := a.pf ++ [⟨num r.2 0 4, num r.2 4 1⟩] }
  else a
def allR : Nat → L → List Rec → L
  | _, a, [] => a
  | i, a, r :: l => allR (i + 1) (addR i a r) l
theorem allR_app (l m : List Rec) : ∀ i a, allR i a (l ++ m) = allR (i + l.length) (allR i a l) m := by
  induction l with
  | nil => intro i a; rfl
  | cons r l ih =>
    intro i a
    simp only [List.cons_append, allR, List.length_cons]
    rw [ih, show i + 1 + l.length = i + (l.length + 1) by omega]
theorem num1 (a : L) (h : Valid a) : num (r1 a).2 0 2 = a.o ∧ num (r1 a).2 2 4 = a.s ∧ num (r1 a).2 6 2 = a.age ∧ num (r1 a).2 8 1 = b01 a.ov := by
  have e0 : (r1 a).2 = be 2 a.o ++ (be 4 a.s ++ (be 2 a.age ++ (be 1 (b01 a.ov) ++ []))) := by simp [r1]
  have e2 : (r1 a).2.drop 2 = be 4 a.s ++ (be 2 a.age ++ (be 1 (b01 a.ov) ++ [])) := by rw [e0, drop_be]
  have e6 : (r1 a).2.drop 6 = be 2 a.age ++ (be 1 (b01 a.ov) ++ []) := by rw [show (6 : Nat) = 2 + 4 from rfl, ← List.drop_drop, e2, drop_be]
  have e8 : (r1 a).2.drop 8 = be 1 (b01 a.ov) ++ [] := by rw [show (8 : Nat) = 6 + 2 from rfl, ← List.drop_drop, e6, drop_be]
  have h1 := h.o
  have h2 := h.s
  have h3 := h.age
  unfold num
  rw [e2, e6, e8, List.drop_zero, e0, take_be, take_be, take_be, take_be]
  refine ⟨ube_be _ _ (by omega) (by omega), ube_be _ _ (by omega) (by omega), ube_be _ _ (by omega) (by omega), ube_be _ _ ?_ ?_⟩ <;> unfold b01 <;> split <;> decide
theorem num2 (o : Int) (x : AD) (h : adOk o x) : num (r2 x).2 0 2 = x.f0 ∧ num (r2 x).2 2 2 = x.f1 ∧ num (r2 x).2 4 2 = x.f2 := by
  have e0 : (r2 x).2 = be 2 x.f0 ++ (be 2 x.f1 ++ (be 2 x.f2 ++ [])) := by simp [r2]
  have e2 : (r2 x).2.drop 2 = be 2 x.f1 ++ (be 2 x.f2 ++ []) := by rw [e0, drop_be]
  have e4 : (r2 x).2.drop 4 = be 2 x.f2 ++ [] := by rw [show (4 : Nat) = 2 + 2 from rfl, ← List.drop_drop, e2, drop_be]
  obtain ⟨h1, h2, _, h3⟩ := h
  unfold num
  rw [e2, e4, List.drop_zero, e0, take_be, take_be, take_be]
  exact ⟨ube_be _ _ (by omega) (by omega), ube_be _ _ (by omega) (by omega), ube_be _ _ (by omega) (by omega)⟩
theorem num3 (p : PF) (h : pfOk p) : num (r3 p).2 0 4 = p.f0 ∧ num (r3 p).2 4 1 = p.f1 := by
  have e0 : (r3 p).2 = be 4 p.f0 ++ (be 1 p.f1 ++ []) := by simp [r3]
  have e4 : (r3 p).2.drop 4 = be 1 p.f1 ++ [] := by rw [e0, drop_be]
  obtain ⟨h1, h2, _⟩ := h
  unfold num
  rw [e4, List.drop_zero, e0, take_be, take_be]
  exact ⟨ube_be _ _ (by omega) (by omega), ube_be _ _ (by omega) (by omega)⟩
theorem dec01 (b : Bool) : decide (b01 b = 1) = b := by cases b <;> rfl
theorem addP1 (a b : L) (h : Valid a) : addP b (r1 a) = some { b with o := a.o, s := a.s, age := a.age, ov := a.ov } := by
  obtain ⟨n1, n2, n3, n4⟩ := num1 a h
  unfold addP
  rw [if_pos (show (r1 a).1 = 1 from rfl), if_pos (by simp [r1, be_len]), n1, n2, n3, n4, dec01]
theorem addP2 (o : Int) (x : AD) (b : L) (h : adOk o x) : addP b (r2 x) = some { b with ad := b.ad ++ [x] } := by
  obtain ⟨n1, n2, n3⟩ := num2 o x h
  unfold addP
  rw [if_neg (show ¬ (r2 x).1 = 1 by simp [r2]), if_pos (show (r2 x).1 = 2 from rfl), if_pos (by simp [r2, be_len]), n1, n2, n3]
theorem addP3 (p : PF) (b : L) (h : pfOk p) : addP b (r3 p) = some { b with pf := b.pf ++ [p] } := by
  obtain ⟨n1, n2⟩ := num3 p h
  unfold addP
  rw [if_neg (show ¬ (r3 p).1 = 1 by simp [r3]), if_neg (show ¬ (r3 p).1 = 2 by simp [r3]), if_pos (show (r3 p).1 = 3 from rfl), if_pos (by simp [r3, be_len]), n1, n2]
theorem allP2 (o : Int) : ∀ (l : List AD) (b : L), (∀ x ∈ l, adOk o x) → allP b (l.map r2) = some { b with ad := b.ad ++ l }
  | [], b, _ => by simp [allP]
  | x :: l, b, h => by
    simp only [List.map_cons, allP, addP2 o x b (h x (by simp))]
    rw [allP2 o l _ (fun y hy => h y (by simp [hy]))]
    simp
theorem allP3 : ∀ (l : List PF) (b : L), (∀ x ∈ l, pfOk x) → allP b (l.map r3) = some { b with pf := b.pf ++ l }
  | [], b, _ => by simp [allP]
  | x :: l, b, h => by
    simp only [List.map_cons, allP, addP3 x b (h x (by simp))]
    rw [allP3 l _ (fun y hy => h y (by simp [hy]))]
    simp
theorem allP_enc (a : L) (h : Valid a) : allP L.zero (recs a ++ [tail a]) = some a := by
  unfold recs
  simp only [List.cons_append, allP, addP1 a _ h]
  rw [allP_app, allP_app, allP2 a.o _ _ (fun x hx => h.ad.mem hx)]
  simp only [Option.bind_some]
  rw [allP3 _ _ (fun x hx => h.pf.mem hx)]
  simp [allP, addP, tail, L.zero]
theorem addR1 (a b : L) (h : Valid a) : addR 0 b (r1 a) = { b with o := a.o, s := a.s, age := a.age, ov := a.ov } := by
  obtain ⟨n1, n2, n3, n4⟩ := num1 a h
  unfold addR
  rw [if_pos ⟨rfl, rfl, by simp [r1, be_len]⟩, n1, n2, n3, n4, dec01]
theorem addR2 (o : Int) (i : Nat) (x : AD) (b : L) (h : adOk o x) : addR i b (r2 x) = { b with ad := b.ad ++ [x] } := by
  obtain ⟨n1, n2, n3⟩ := num2 o x h
  unfold addR
  rw [if_neg (by simp [r2]), if_pos ⟨rfl, by simp [r2, be_len]⟩, n1, n2, n3]
theorem addR3 (i : Nat) (p : PF) (b : L) (h : pfOk p) : addR i b (r3 p) = { b with pf := b.pf ++ [p] } := by
  obtain ⟨n1, n2⟩ := num3 p h
  unfold addR
  rw [if_neg (by simp [r3]), if_neg (by simp [r3]), if_pos ⟨rfl, by simp [r3, be_len]⟩, n1, n2]
theorem allR2 (o : Int) : ∀ (l : List AD) (i : Nat) (b : L), (∀ x ∈ l, adOk o x) → allR i b (l.map r2) = { b with ad := b.ad ++ l }
  | [], i, b, _ => by simp [allR]
  | x :: l, i, b, h => by
    simp only [List.map_cons, allR, addR2 o i x b (h x (by simp))]
    rw [allR2 o l _ _ (fun y hy => h y (by simp [hy]))]
    simp
theorem allR3 : ∀ (l : List PF) (i : Nat) (b : L), (∀ x ∈ l, pfOk x) → allR i b (l.map r3) = { b with pf := b.pf ++ l }
  | [], i, b, _ => by simp [allR]
  | x :: l, i, b, h => by
    simp only [List.map_cons, allR, addR3 i x b (h x (by simp))]
    rw [allR3 l _ _ (fun y hy => h y (by simp [hy]))]
    simp
theorem allR_enc (a : L) (h : Valid a) : allR 0 L.zero (recs a ++ [tail a]) = a := by
  unfold recs
  simp only [List.cons_append, allR, addR1 a _ h]
  rw [allR_app, allR_app, allR2 a.o _ _ _ (fun x hx => h.ad.mem hx), allR3 _ _ _ (fun x hx => h.pf.mem hx)]
  simp [allR, addR, tail, L.zero]
/-- An encoding says which advertisement it is of. -/
theorem enc_inj {a b : L} (ha : Valid a) (hb : Valid b) (h : enc a = enc b) : a = b := by
  have h1 := records_enc a
  rw [h, records_enc b] at h1
  have h2 := allP_enc a ha
  rw [← Option.some.inj h1, allP_enc b hb] at h2
  exact (Option.some.inj h2).symm

/-! ### what an encoding decodes to -/
open Classical in
/-- The advertisement of these bytes; none: they are no encoding. -/
noncomputable def dec (b : List Int) : Option L := if h : ∃ a, Valid a ∧ enc a = b then some h.choose else none
theorem dec_enc {a : L} (h : Valid a) : dec (enc a) = some a := by
  have hx : ∃ a', Valid a' ∧ enc a' = enc a := ⟨a, h, rfl⟩
  unfold dec
  rw [dif_pos hx]
  obtain ⟨h1, h2⟩ := hx.choose_spec
  rw [enc_inj h1 h h2]
theorem dec_some {b : List Int} {a : L} (h : dec b = some a) : Valid a ∧ enc a = b := by
  unfold dec at h
  split at h
  · rename_i hx
    obtain rfl := Option.some.inj h
    exact hx.choose_spec
  · cases h
theorem dec_none {b : List Int} (h : dec b = none) (a : L) (ha : Valid a) : enc a ≠ b := by
  rintro rfl
  rw [dec_enc ha] at h
  cases h
/-- The program's way of reading: the records, then all of it encoded again. -/
theorem decP {b : List Int} {a : L} : dec b = some a ↔ Valid a ∧ enc a = b := by
  constructor
  · exact dec_some
  · rintro ⟨h1, rfl⟩; exact dec_enc h1
theorem decP_none {b : List Int} (h : records b = none) : dec b = none := by
  cases hd : dec b with
  | none => rfl
  | some a => obtain ⟨_, rfl⟩ := dec_some hd; rw [records_enc] at h; cases h
theorem decP_none' {b : List Int} {rs : List Rec} (hr : records b = some rs) (ha : allP L.zero rs = none) : dec b = none := by
  cases hd : dec b with
  | none => rfl
  | some a =>
    obtain ⟨hv, rfl⟩ := dec_some hd
    rw [records_enc] at hr
    obtain rfl := Option.some.inj hr
    rw [allP_enc a hv] at ha; cases ha
theorem decP_no {b : List Int} {rs : List Rec} {a : L} (hr : records b = some rs) (ha : allP L.zero rs = some a) (hno : ¬ (Valid a ∧ enc a = b)) : dec b = none := by
  cases hd : dec b with
  | none => rfl
  | some a' =>
    obtain ⟨hv, rfl⟩ := dec_some hd
    rw [records_enc] at hr
    obtain rfl := Option.some.inj hr
    rw [allP_enc a' hv] at ha
    obtain rfl := Option.some.inj ha
    exact absurd ⟨hv, rfl⟩ hno
theorem decR_no {b : List Int} {rs : List Rec} (hr : records b = some rs) (hno : ¬ (Valid (allR 0 L.zero rs) ∧ enc (allR 0 L.zero rs) = b)) : dec b = none := by
  cases hd : dec b with
  | none => rfl
  | some a' =>
    obtain ⟨hv, rfl⟩ := dec_some hd
    rw [records_enc] at hr
    obtain rfl := Option.some.inj hr
    rw [allR_enc a' hv] at hno
    exact absurd ⟨hv, rfl⟩ hno
/-- A proper beginning of an encoding is none. -/
theorem dec_cut {a : L} (_ha : Valid a) {k : Nat} (hk : k < (enc a).length) : dec ((enc a).take k) = none := by
  cases hd : dec ((enc a).take k) with
  | none => rfl
  | some c =>
    exfalso
    obtain ⟨hc, he⟩ := dec_some hd
    have h1 := records_enc a
    rw [← List.take_append_drop k (enc a), ← he, enc_cenc c, records_app (good_all c)] at h1
    have hne : (enc a).drop k ≠ [] := by
      intro e
      have := congrArg List.length e
      simp at this
      omega
    cases hr : records ((enc a).drop k) with
    | none => rw [hr] at h1; cases h1
    | some rest =>
      rw [hr] at h1
      simp only [Option.map_some, Option.some.injEq] at h1
      have hrest : rest ≠ [] := by
        rintro rfl
        match hx : (enc a).drop k, hne with
        | x :: xs, _ =>
          rw [hx] at hr
          simp only [records, parse, List.length_cons] at hr
          split at hr
          · cases hr
          · simp at hr
      -- the record of type 4 of c stands ahead of the last one of a
      have h2 : tail c ∈ recs a := by
        have e3 : (recs c ++ [tail c] ++ rest).dropLast = recs c ++ [tail c] ++ rest.dropLast := List.dropLast_append_of_ne_nil hrest
        rw [h1, List.dropLast_concat] at e3
        rw [e3]; simp
      simp only [recs, List.mem_cons, List.mem_append, List.mem_map] at h2
      rcases h2 with h2 | ⟨x, _, h2⟩ | ⟨p, _, h2⟩
      · have := congrArg Prod.fst h2; simp [tail, r1] at this
      · have := congrArg Prod.fst h2; simp [tail, r2] at this
      · have := congrArg Prod.fst h2; simp [tail, r3] at this
theorem dec_sums {b : List Int} {a : L} (h : dec b = some a) : sums b = (0, 0) := by
  obtain ⟨_, rfl⟩ := dec_some h
  exact enc_sums a
/-- One byte that is changed shows in the first sum. -/
theorem spoiled {b : List Int} (hb : sums b = (0, 0)) {k : Nat} {x tv : Int} (hk : b[k]? = some x) (hx : 0 ≤ x ∧ x ≤ 255) (ht : 0 ≤ tv ∧ tv ≤ 255) (hne : x ≠ tv) (h1 : ¬ (x = 0 ∧ tv = 255)) (h2 : ¬ (x = 255 ∧ tv = 0)) : sums (b.set k tv) ≠ (0, 0) := by
  intro h
  unfold sums at h hb
  obtain ⟨e1, _⟩ := Prod.mk.inj h
  obtain ⟨e2, _⟩ := Prod.mk.inj hb
  rw [sum_set b k tv x hk] at e1
  omega
theorem enc_len (a : L) : (enc a).length = 17 + 9 * a.ad.length + 8 * a.pf.length := by
  have h2 : ∀ l : List AD, (cenc (l.map r2)).length = 9 * l.length := by
    intro l
    induction l with
    | nil => rfl
    | cons x l ih => rw [List.map_cons, cenc_cons, List.length_append, ih, cenc_len_recb]; simp [r2, be_len]; omega
  have h3 : ∀ l : List PF, (cenc (l.map r3)).length = 8 * l.length := by
    intro l
    induction l with
    | nil => rfl
    | cons x l ih => rw [List.map_cons, cenc_cons, List.length_append, ih, cenc_len_recb]; simp [r3, be_len]; omega
  simp only [enc, sealed, body, recs, cenc_cons, cenc_app, List.length_append, h2, h3, cenc_len_recb]
  simp [r1, be_len]; omega
end Go.Proofs.Ytdkfhlfojleejaa.LS
