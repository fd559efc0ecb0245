/-
  Arguments of a row, of any nesting of integers, bools, strings, structs, small arrays and slices, opened into the print's kinds ('Kd').
-/
import Derived.Test.YtdkfhlfojleejaaWWords
import Derived.Deep.Slices
import Derived.ChangeArms
import Derived.WideShapes
namespace Go.Proofs.Ytdkfhlfojleejaa.Open
open Go.RowKit Go.Proofs.YtdkfhlfojleejaaW.PrintWords

/-- Whatever reads as a datum of type t is a value of kind d that is good. -/
def Opens (P : Program) (t : TypeId) {α : Type} (d : Kd α) (G : α → Prop) : Prop :=
  P.cellsOf t = d.sz ∧ ∀ (H : Type) (enc : TypeId × Value → H) (w : World) (base : Nat) (spare : Nat → Bool) (held : Bool) (fuel : Nat) (cs : List Value) (x : DataW H × List MemPlace),
    DataW.trod enc P w base spare held fuel t cs = some x → ∃ a : α, d.K w a cs ∧ G a

theorem Opens.int {P : Program} {t : TypeId} {k : IntKind} (hu : P.underlying t = some (.int k)) (hc : P.cellsOf t = 1) : Opens P t (Kd.int k) (fun x => (Lit.int k x).wf = true) := by
  refine ⟨hc, fun H enc w base spare held fuel cs x h => ?_⟩
  obtain ⟨n, rfl, _, hw⟩ := DataW.trod_int hu h
  exact ⟨n, rfl, hw⟩
theorem Opens.bool {P : Program} {t : TypeId} (hu : P.underlying t = some .bool) (hc : P.cellsOf t = 1) : Opens P t Kd.bool (fun _ => True) := by
  refine ⟨hc, fun H enc w base spare held fuel cs x h => ?_⟩
  obtain ⟨n, rfl, _⟩ := DataW.trod_bool hu h
  exact ⟨n, rfl, trivial⟩
theorem Opens.string {P : Program} {t : TypeId} (hu : P.underlying t = some .string) (hc : P.cellsOf t = 1) : Opens P t Kd.string (fun s => s.size ≤ maxLen) := by
  refine ⟨hc, fun H enc w base spare held fuel cs x h => ?_⟩
  obtain ⟨n, rfl, _, hw⟩ := DataW.trod_string hu h
  exact ⟨n, rfl, hw⟩
theorem choose_list {α : Type} {n : Nat} {p : Nat → α → Prop} (h : ∀ i, i < n → ∃ x, p i x) : ∃ l : List α, l.length = n ∧ ∀ i a, l[i]? = some a → p i a := by
  induction n with
  | zero => exact ⟨[], rfl, fun i a hi => by simp at hi⟩
  | succ n ih =>
    obtain ⟨l, hl, hp⟩ := ih (fun i hi => h i (by omega))
    obtain ⟨x, hx⟩ := h n (by omega)
    refine ⟨l ++ [x], by simp [hl], fun i a hi => ?_⟩
    by_cases hlt : i < l.length
    · rw [List.getElem?_append_left hlt] at hi
      exact hp i a hi
    · rw [List.getElem?_append_right (by omega)] at hi
      have h0 : i - l.length = 0 := by
        by_cases hz : i - l.length = 0
        · exact hz
        · rw [List.getElem?_eq_none (by simp; omega)] at hi
          cases hi
      rw [h0] at hi
      obtain rfl : x = a := by simpa using hi
      have : i = n := by omega
      subst this
      exact hx
theorem Opens.slice {P : Program} {t e : TypeId} {α : Type} {d : Kd α} {G : α → Prop} (hu : P.underlying t = some (.slice e)) (hc : P.cellsOf t = 1) (he : Opens P e d G) :
    Opens P t (Kd.slice e d) (fun xs => xs.length ≤ maxLen ∧ ∀ x ∈ xs, G x) := by
  refine ⟨hc, fun H enc w base spare held fuel cs x h => ?_⟩
  rcases Go.Deep.open_slice hu h with ⟨rfl, _⟩ | ⟨a, len, cap, m, n, D, Pl, rfl, _, hl, hm, hmm, _, hx⟩
  · exact ⟨[], ⟨none, 0, rfl, Nat.le_refl _, rfl, by simp, fun hp => absurd hp (by simp)⟩, by simp, fun x hx => by cases hx⟩
  · have hle : len ≤ m := by rw [hmm]; split <;> omega
    obtain ⟨l, hll, hp⟩ := choose_list (α := α) (n := len) (p := fun i a' => G a' ∧ ∃ c, c.length = d.sz ∧ d.K w a' c ∧ ∀ j u, c[j]? = some u → w.cell? (a.add (i * d.sz + j)) = some u) (fun i hi => by
      obtain ⟨cs', h1, h2⟩ := hx i (by omega)
      obtain ⟨y, hy, hg⟩ := he.2 H enc w base spare held n cs' _ h2
      obtain ⟨_, hlen, hcell⟩ := World.cells?_some h1
      refine ⟨y, hg, cs', by rw [hlen, he.1], hy, fun j u hj => ?_⟩
      have hjl : j < P.cellsOf e := by
        rw [← hlen]
        exact (List.getElem?_eq_some_iff.1 hj).1
      have := hcell j hjl
      rw [hj, Go.Deep.add_add, he.1] at this
      exact this)
    subst hll
    refine ⟨l, ⟨some a, cap, rfl, hl, rfl, ?_, fun _ => ⟨a, rfl, fun j p hj => ?_⟩⟩, by omega, fun x hx => ?_⟩
    · simp only [maxLen] at hm; omega
    · obtain ⟨_, c, h1, h2, h3⟩ := hp j p hj
      exact ⟨c, h1, h2, h3⟩
    · obtain ⟨i, hi⟩ := List.mem_iff_getElem?.1 hx
      exact (hp i x hi).1

/-- The fields of a struct, from one offset on. -/
def OpensF (P : Program) (off : Nat) (fs : List (Nat × TypeId)) {α : Type} (d : Kd α) (G : α → Prop) : Prop :=
  ∀ (H : Type) (enc : TypeId × Value → H) (w : World) (base : Nat) (spare : Nat → Bool) (held : Bool) (fuel : Nat) (cs : List Value),
    (∀ f ∈ fs, ∃ x, DataW.trod enc P w base spare held fuel f.2 ((cs.drop f.1).take (P.cellsOf f.2)) = some x) → cs.length = off + d.sz → ∃ a : α, d.K w a (cs.drop off) ∧ G a
theorem OpensF.one {P : Program} {off : Nat} {t : TypeId} {α : Type} {d : Kd α} {G : α → Prop} (h : Opens P t d G) : OpensF P off [(off, t)] d G := by
  intro H enc w base spare held fuel cs hf hl
  obtain ⟨x, hx⟩ := hf _ (List.mem_singleton.2 rfl)
  have e : (cs.drop off).take (P.cellsOf t) = cs.drop off := List.take_of_length_le (by rw [List.length_drop, h.1]; omega)
  rw [e] at hx
  exact h.2 H enc w base spare held fuel _ x hx
theorem OpensF.cons {P : Program} {off : Nat} {t : TypeId} {fs : List (Nat × TypeId)} {α β : Type} {d : Kd α} {d2 : Kd β} {G : α → Prop} {G2 : β → Prop} (h : Opens P t d G) (h2 : OpensF P (off + d.sz) fs d2 G2) :
    OpensF P off ((off, t) :: fs) (Kd.pair d d2) (fun x => G x.1 ∧ G2 x.2) := by
  intro H enc w base spare held fuel cs hf hl
  have hl' : cs.length = off + (d.sz + d2.sz) := hl
  obtain ⟨x, hx⟩ := hf (off, t) (by simp)
  obtain ⟨a, ha, hg⟩ := h.2 H enc w base spare held fuel _ x hx
  obtain ⟨b, hb, hg2⟩ := h2 H enc w base spare held fuel cs (fun f hm => hf f (by simp [hm])) (by omega)
  refine ⟨(a, b), ⟨(cs.drop off).take d.sz, (cs.drop off).drop d.sz, (List.take_append_drop _ _).symm, ?_, ?_⟩, hg, hg2⟩
  · rw [← h.1]; exact ha
  · rw [List.drop_drop]; exact hb
theorem Opens.struct {P : Program} {t : TypeId} {fs : Array Field} {α β : Type} {d : Kd α} {G : α → Prop} (f : β → α) (g : α → β) (hfg : ∀ a, f (g a) = a) (hu : P.underlying t = some (.struct fs)) (hc : P.cellsOf t = d.sz)
    (h : OpensF P 0 (fs.toList.map fun x => (x.offset, x.type)) d G) : Opens P t (Kd.iso d f) (fun x => G (f x)) := by
  refine ⟨hc, fun H enc w base spare held fuel cs x hx => ?_⟩
  obtain ⟨xs, n, rfl, _, hl, hlen, hf⟩ := DataW.trod_struct hu hx
  obtain ⟨a, ha, hg⟩ := h H enc w base spare held n cs (fun y hy => by
    obtain ⟨q, hq, rfl⟩ := List.mem_map.1 hy
    obtain ⟨i, hi⟩ := List.mem_iff_getElem?.1 hq
    have hi' : fs[i]? = some q := by simpa using hi
    have := hf i q hi'
    have hlt : i < xs.length := by rw [hlen]; exact (Array.getElem?_eq_some_iff.1 hi').1
    exact ⟨xs[i], by rw [this, List.getElem?_eq_getElem hlt]⟩) (by rw [hl, hc]; omega)
  refine ⟨g a, ?_, by show G (f (g a)); rw [hfg]; exact hg⟩
  show d.K w (f (g a)) cs
  rw [hfg]
  simpa using ha
theorem mapM_some_at {α β : Type} {f : α → Option β} {l : List α} {r : List β} (h : l.mapM f = some r) : ∀ x ∈ l, ∃ y, f x = some y := by
  induction l generalizing r with
  | nil => intro x hx; cases hx
  | cons a l ih =>
    simp only [List.mapM_cons, Option.pure_def, Option.bind_eq_bind, Option.bind_eq_some_iff] at h
    obtain ⟨b, hb, r', hr', _⟩ := h
    intro x hx
    rcases List.mem_cons.1 hx with rfl | hx
    · exact ⟨b, hb⟩
    · exact ih hr' x hx
theorem trod_array {H : Type} {enc : TypeId × Value → H} {P : Program} {w : World} {base : Nat} {spare : Nat → Bool} {held : Bool} {fuel : Nat} {t e : TypeId} {n : Nat} {cs : List Value} {x : DataW H × List MemPlace} (ht : P.underlying t = some (.array n e)) (h : DataW.trod enc P w base spare held fuel t cs = some x) :
    ∃ m, cs.length = P.cellsOf t ∧ ∀ i, i < n → ∃ y, DataW.trod enc P w base spare held m e ((cs.drop (i * P.cellsOf e)).take (P.cellsOf e)) = some y := by
  cases fuel with
  | zero => simp [DataW.trod] at h
  | succ m =>
    unfold DataW.trod at h
    rw [ht] at h
    split at h <;> simp_all
    obtain ⟨hl, xs, hp, hd⟩ := h
    exact ⟨m, fun i hi => by
      obtain ⟨y, hy⟩ := mapM_some_at hp i (by simpa using hi)
      exact ⟨y.1, y.2, hy⟩⟩
theorem Opens.array {P : Program} {t e : TypeId} {n c : Nat} (hce : P.cellsOf e = c) {α β : Type} {d : Kd α} {G : α → Prop} (f : β → α) (g : α → β) (hfg : ∀ a, f (g a) = a) (hu : P.underlying t = some (.array n e)) (hc : P.cellsOf t = d.sz)
    (h : OpensF P 0 ((List.range n).map fun i => (i * c, e)) d G) : Opens P t (Kd.iso d f) (fun x => G (f x)) := by
  refine ⟨hc, fun H enc w base spare held fuel cs x hx => ?_⟩
  obtain ⟨m, hl, hf⟩ := trod_array hu hx
  subst hce
  obtain ⟨a, ha, hg⟩ := h H enc w base spare held m cs (fun y hy => by
    obtain ⟨i, hi, rfl⟩ := List.mem_map.1 hy
    exact hf i (List.mem_range.1 hi)) (by rw [hl, hc]; omega)
  refine ⟨g a, ?_, by show G (f (g a)); rw [hfg]; exact hg⟩
  show d.K w (f (g a)) cs
  rw [hfg]
  simpa using ha
/-- An argument, opened. -/
theorem Opens.arg {P : Program} {t : TypeId} {α : Type} {d : Kd α} {G : α → Prop} (h : Opens P t d G) {H : Type} {enc : TypeId × Value → H} {w : World} {base : Nat} {spare : Nat → Bool} {held : Bool} {v : Value} {x : DataW H} {ps : List MemPlace}
    (hx : DataW.Trod enc P w base spare held t v x ps) : ∃ a : α, d.K w a v.cells.toList ∧ G a := by
  obtain ⟨fuel, hf⟩ := hx
  exact h.2 H enc w base spare held fuel _ _ hf
theorem agg_of_struct {P : Program} {w : World} {r : Reach} {b : Nat} {t : TypeId} {v : Value} {fs : Array Field} (hs : P.underlying t = some (.struct fs)) (hv : Value.okWide P w r b t v) : ∃ cs : Array Value, v = .agg cs := by
  simp only [Value.okWide, hs] at hv
  obtain ⟨cs, e, _⟩ := hv
  exact ⟨cs, e⟩
theorem agg_of_array {P : Program} {w : World} {r : Reach} {b : Nat} {t e : TypeId} {n : Nat} {v : Value} (hs : P.underlying t = some (.array n e)) (hv : Value.okWide P w r b t v) : ∃ cs : Array Value, v = .agg cs := by
  simp only [Value.okWide, hs] at hv
  obtain ⟨cs, e, _⟩ := hv
  exact ⟨cs, e⟩
end Go.Proofs.Ytdkfhlfojleejaa.Open
