/-
  Steps of the walk beside the print's: a call of a function that lies in a slot.
-/
import Derived.Test.YtdkfhlfojleejaaWLast
import Derived.Test.YtdkfhlfojleejaaWTab
import Derived.Test.YtdkfhlfojleejaaWMore
namespace Go.Proofs.YtdkfhlfojleejaaW.PrintLast
open Go.RowKit Go.Proofs.YtdkfhlfojleejaaW.PrintWords
variable {P : Program} {ops : Array Oper} {Q : Exit → Act → World → Prop}
theorem gate_tmp {rest : List Oper} {o : Oper} {a : Act} {W : World} {s : Nat} {as : Array Operand} {ts : Array TypeId} (_ho : o.op = .call { callee := .value (.tmp s), args := as, argTypes := ts }) (h : wpList P ops Q (o :: rest) a W) : wpList P ops Q (o :: rest) a W := h
/-- A call of a plain function that lies in a slot. -/
theorem goesT_ {rest : List Oper} {oi : Oper} {a : Act} {w : World} (N : Option Tmp) (hd : oi.dst = N) (hg : oi.guard = none) {f : FuncId} {fn : Func} {s : Nat} {as : Array Operand} {ts : Array TypeId} (hf : P.funcs[f]? = some fn) (hname : (fn.name == "runtime.NumGoroutine") = false) (hb : fn.body.isSome = true) (args : Array Value)
    (hop : oi.op = .call { callee := .value (.tmp s), args := as, argTypes := ts }) (hv : a.eval (.tmp s) = .func (.func f) #[] #[]) (hargs : as.map a.eval = args)
    (h : Calls P f args w fun e w' => ∃ v, e = .returned v ∧ wpList P ops Q rest (a.put N v) w') : wpList P ops Q (oi :: rest) a w := by
  refine wpList_plain hg fun K hK => ?_
  have he := enters_ hf hname hb args w
  have hrun : (execOp a.eval oi).run P w = .ok (.enter f args) w := by
    unfold execOp
    simp [hop, resolve, Deferred.ofValue, invoke, hv, hargs, he]
  unfold Oper.wp
  rw [hrun, Oper.upon_enter]
  refine h.mono fun e w'' hh => ?_
  obtain ⟨v, rfl, hk⟩ := hh
  subst hd
  exact hK _ _ hk
section
variable {md : Region.Mode} {S : World → Prop} {ds : List Nat} {T : Bool × List (List Nat × List Nat)}
/-- The print's step over an operation that yields in every world, in few words. -/
theorem pz (i n : Nat) {oi : Oper} {v : Value} {fuel : Nat} {l : Array Bool} {a a' : Act} {w : World} (hT : Aside0 (rtab md ops = T)) (hi : ops[i]? = some oi) (hN : oi.dst = some n) (hc : anyT T l.toList (l.setIfInBounds i true).toList i = true)
    (hQ : ∀ c a w, Q (.panic c) (a.put oi.dst v) w → Q (.panic c) a w) (hy : Yields P ops oi v a) (ha : a.put (some n) v = a')
    (h : wpAnyLast P md ops Q S ds fuel (l.setIfInBounds i true) a' w) : wpAnyLast P md ops Q S ds (fuel + 1) l a w := pure_ _ hi hN (any_of hT.out hc) hQ hy ha h
theorem tz (i n : Nat) {oi : Oper} {v : Value} {fuel : Nat} {l : Array Bool} {a a' : Act} {w : World} {B : List Nat} (hT : Aside0 (rtab md ops = T)) (hW : Aside0 (waitsOk T.2 B = true)) (hi : ops[i]? = some oi) (hN : oi.dst = some n) (hc : takeW T B ds l.toList (l.setIfInBounds i true).toList i = true)
    (hQ : ∀ c a w, Q (.panic c) (a.put oi.dst v) w → Q (.panic c) a w) (hy : YieldsIf P ops S oi v a) (hS : S w) (ha : a.put (some n) v = a')
    (h : wpAnyLast P md ops Q S ds fuel (l.setIfInBounds i true) a' w) : wpAnyLast P md ops Q S ds (fuel + 1) l a w := take_ _ hi hN (take_ofW hT.out hW.out hc) hQ hy hS ha h
/-- .. with what is alike each time left to the theorem. -/
theorem py (i n : Nat) {oi : Oper} {v : Value} {fuel : Nat} {l : Array Bool} {a a' : Act} {w : World} (hT : Aside0 (rtab md ops = T))
    (h : wpAnyLast P md ops Q S ds fuel (l.setIfInBounds i true) a' w) (hi : ops[i]? = some oi := by rfl) (hN : oi.dst = some n := by rfl) (hc : anyT T l.toList (l.setIfInBounds i true).toList i = true := by kernel_rfl)
    (hQ : ∀ c a w, Q (.panic c) (a.put oi.dst v) w → Q (.panic c) a w := by exact fun _ _ _ h => h) (hy : Yields P ops oi v a := by exact Or.inl ⟨by rfl, by intro w'; go_simp; with_reducible rfl⟩) (ha : a.put (some n) v = a' := by simp only [Act.put, List.setIfInBounds_toArray, List.set_cons_zero, List.set_cons_succ, i64_w, i32_w]; rfl) :
    wpAnyLast P md ops Q S ds (fuel + 1) l a w := pure_ _ hi hN (any_of hT.out hc) hQ hy ha h
theorem pu (i n : Nat) {oi : Oper} {fuel : Nat} {l : Array Bool} {a a' : Act} {w : World} (hT : Aside0 (rtab md ops = T))
    (h : wpAnyLast P md ops Q S ds fuel (l.setIfInBounds i true) a' w) (hi : ops[i]? = some oi := by rfl) (hN : oi.dst = some n := by rfl) (hc : anyT T l.toList (l.setIfInBounds i true).toList i = true := by kernel_rfl)
    (hQ : ∀ c a w, Q (.panic c) (a.put oi.dst undef) w → Q (.panic c) a w := by exact fun _ _ _ h => h) (hy : Yields P ops oi undef a := by exact Or.inr ⟨by rfl, rfl⟩) (ha : a.put (some n) undef = a' := by simp only [Act.put, List.setIfInBounds_toArray, List.set_cons_zero, List.set_cons_succ, i64_w, i32_w]; rfl) :
    wpAnyLast P md ops Q S ds (fuel + 1) l a w := pure_ _ hi hN (any_of hT.out hc) hQ hy ha h
theorem ty (i n : Nat) {oi : Oper} {v : Value} {fuel : Nat} {l : Array Bool} {a a' : Act} {w : World} {B : List Nat} (hT : Aside0 (rtab md ops = T)) (hW : Aside0 (waitsOk T.2 B = true)) (hi : ops[i]? = some oi) (hy : YieldsIf P ops S oi v a) (hS : S w)
    (h : wpAnyLast P md ops Q S ds fuel (l.setIfInBounds i true) a' w) (hN : oi.dst = some n := by rfl) (hc : takeW T B ds l.toList (l.setIfInBounds i true).toList i = true := by kernel_rfl)
    (hQ : ∀ c a w, Q (.panic c) (a.put oi.dst v) w → Q (.panic c) a w := by exact fun _ _ _ h => h) (ha : a.put (some n) v = a' := by simp only [Act.put, List.setIfInBounds_toArray, List.set_cons_zero, List.set_cons_succ, i64_w, i32_w]; rfl) :
    wpAnyLast P md ops Q S ds (fuel + 1) l a w := take_ _ hi hN (take_ofW hT.out hW.out hc) hQ hy hS ha h
end
section
/-- Between two worlds a call has only drawn and laid new blocks. -/
class KW (w W : World) : Prop where out : Below w.heap.size w W
instance KW.r (w : World) : KW w w := ⟨Below.refl _ _⟩
instance KW.a (w W : World) (o : Obj) [h : KW w W] : KW w (W.alloc o) := ⟨below_alloc h.out o⟩
instance KW.n (w W : World) (n : Nat) [h : KW w W] : KW w (W.drewN n) := ⟨pw_below_drewN h.out n⟩
instance KW.d (w W : World) [h : KW w W] : KW w W.drew := ⟨below_drew1 h.out⟩
variable {w w0 W w2 : World} {g g1 g2 : Nat} {ob ob1 ob2 : Obj}
theorem kb_ (h : Aside0 (w.heap[g]? = some ob)) [k : KW w W] : W.heap[g]? = some ob := blk_below h.out k.out
theorem kw_ (h : Aside0 (Below w0.heap.size w0 w)) [k : KW w W] : Below w0.heap.size w0 W := below_step h.out k.out
theorem bb_ (h : Aside0 (w.heap[g]? = some ob)) (hb : Below W.heap.size W w2) [k : KW w W] : Aside0 (w2.heap[g]? = some ob) := ⟨blk_below (kb_ h) hb⟩
theorem bs_ (h : Aside0 (Below w0.heap.size w0 w)) (hb : Below W.heap.size W w2) [k : KW w W] : Aside0 (Below w0.heap.size w0 w2) := ⟨below_step (kw_ h) hb⟩
theorem gs_ (h : Aside0 (Below w0.heap.size w0 w)) (hg : g = W.heap.size) [k : KW w W] : Aside0 (w0.heap.size ≤ g) := ⟨by rw [hg]; exact below_size (kw_ h)⟩
theorem nl_ (h : Aside0 (w.heap[g1]? = some ob)) (hg : g = W.heap.size) [k : KW w W] : Aside0 (g1 ≠ g) := ⟨by rw [hg]; exact Nat.ne_of_lt (blk_lt (kb_ h))⟩
theorem ng_ (h : Aside0 (w.heap[g1]? = some ob)) (hg : g = W.heap.size) [k : KW w W] : Aside0 (g ≠ g1) := ⟨by rw [hg]; exact Nat.ne_of_gt (blk_lt (kb_ h))⟩
theorem cs_ {α : Type} {d : Kd α} {A : Option Addr} {n : Nat} {xs : List α} (hr : Aside0 (d.C w0 A n xs)) (hb : Aside0 (Below w0.heap.size w0 w)) [k : KW w W] : d.C W A n xs := Kd.C_below (Kd.C_below hr.out hb.out) k.out
theorem bA {o : Obj} (h : Below w0.heap.size w0 W) : Below w0.heap.size w0 (W.alloc o) := below_alloc h o
theorem bN {n : Nat} (h : Below w0.heap.size w0 W) : Below w0.heap.size w0 (W.drewN n) := pw_below_drewN h n
theorem bD (h : Below w0.heap.size w0 W) : Below w0.heap.size w0 W.drew := below_drew1 h
class KU (W : World) (W0 : outParam World) : Prop where out : ∀ {w : World}, Below w.heap.size w W0 → Below w.heap.size w W
instance KU.a (W : World) (ob : Obj) : KU (W.alloc ob) W := ⟨fun h => below_alloc h ob⟩
instance KU.n (W : World) (n : Nat) : KU (W.drewN n) W := ⟨fun h => pw_below_drewN h n⟩
instance KU.d (W : World) : KU W.drew W := ⟨fun h => below_drew1 h⟩
theorem bU {W W' : World} {w : World} [k : KU W W'] (h : Below w.heap.size w W') : Below w.heap.size w W := k.out h
theorem bS (hg : w0.heap.size ≤ g) {j : Nat} {v : Value} (h : Below w0.heap.size w0 W) : Below w0.heap.size w0 (W.setCell ⟨g, j, none⟩ v) := below_set h hg
theorem c1_ {t : TypeId} {v0 : Value} (h : Aside0 (w.heap[g]? = some (.cells #[v0] t (0, 0)))) : w.cell? ⟨g, 0, none⟩ = some v0 ∧ w.frozen? ⟨g, 0, none⟩ = false := ⟨(blk_cell h.out 0).trans rfl, blk_frozen h.out 0⟩
theorem c2_ {t : TypeId} {v0 v1 : Value} (h : Aside0 (w.heap[g]? = some (.cells #[v0, v1] t (0, 0)))) : w.cell? ⟨g, 0, none⟩ = some v0 ∧ w.cell? ⟨g, 1, none⟩ = some v1 ∧ w.frozen? ⟨g, 0, none⟩ = false ∧ w.frozen? ⟨g, 1, none⟩ = false := ⟨(blk_cell h.out 0).trans rfl, (blk_cell h.out 1).trans rfl, blk_frozen h.out 0, blk_frozen h.out 1⟩
theorem c3_ {t : TypeId} {v0 v1 v2 : Value} (h : Aside0 (w.heap[g]? = some (.cells #[v0, v1, v2] t (0, 0)))) : w.cell? ⟨g, 0, none⟩ = some v0 ∧ w.cell? ⟨g, 1, none⟩ = some v1 ∧ w.cell? ⟨g, 2, none⟩ = some v2 ∧ w.frozen? ⟨g, 0, none⟩ = false ∧ w.frozen? ⟨g, 1, none⟩ = false ∧ w.frozen? ⟨g, 2, none⟩ = false := ⟨(blk_cell h.out 0).trans rfl, (blk_cell h.out 1).trans rfl, (blk_cell h.out 2).trans rfl, blk_frozen h.out 0, blk_frozen h.out 1, blk_frozen h.out 2⟩
theorem c4_ {t : TypeId} {v0 v1 v2 v3 : Value} (h : Aside0 (w.heap[g]? = some (.cells #[v0, v1, v2, v3] t (0, 0)))) : w.cell? ⟨g, 0, none⟩ = some v0 ∧ w.cell? ⟨g, 1, none⟩ = some v1 ∧ w.cell? ⟨g, 2, none⟩ = some v2 ∧ w.cell? ⟨g, 3, none⟩ = some v3 ∧ w.frozen? ⟨g, 0, none⟩ = false ∧ w.frozen? ⟨g, 1, none⟩ = false ∧ w.frozen? ⟨g, 2, none⟩ = false ∧ w.frozen? ⟨g, 3, none⟩ = false := ⟨(blk_cell h.out 0).trans rfl, (blk_cell h.out 1).trans rfl, (blk_cell h.out 2).trans rfl, (blk_cell h.out 3).trans rfl, blk_frozen h.out 0, blk_frozen h.out 1, blk_frozen h.out 2, blk_frozen h.out 3⟩
theorem c5_ {t : TypeId} {v0 v1 v2 v3 v4 : Value} (h : Aside0 (w.heap[g]? = some (.cells #[v0, v1, v2, v3, v4] t (0, 0)))) : w.cell? ⟨g, 0, none⟩ = some v0 ∧ w.cell? ⟨g, 1, none⟩ = some v1 ∧ w.cell? ⟨g, 2, none⟩ = some v2 ∧ w.cell? ⟨g, 3, none⟩ = some v3 ∧ w.cell? ⟨g, 4, none⟩ = some v4 ∧ w.frozen? ⟨g, 0, none⟩ = false ∧ w.frozen? ⟨g, 1, none⟩ = false ∧ w.frozen? ⟨g, 2, none⟩ = false ∧ w.frozen? ⟨g, 3, none⟩ = false ∧ w.frozen? ⟨g, 4, none⟩ = false := ⟨(blk_cell h.out 0).trans rfl, (blk_cell h.out 1).trans rfl, (blk_cell h.out 2).trans rfl, (blk_cell h.out 3).trans rfl, (blk_cell h.out 4).trans rfl, blk_frozen h.out 0, blk_frozen h.out 1, blk_frozen h.out 2, blk_frozen h.out 3, blk_frozen h.out 4⟩
theorem c6_ {t : TypeId} {v0 v1 v2 v3 v4 v5 : Value} (h : Aside0 (w.heap[g]? = some (.cells #[v0, v1, v2, v3, v4, v5] t (0, 0)))) : w.cell? ⟨g, 0, none⟩ = some v0 ∧ w.cell? ⟨g, 1, none⟩ = some v1 ∧ w.cell? ⟨g, 2, none⟩ = some v2 ∧ w.cell? ⟨g, 3, none⟩ = some v3 ∧ w.cell? ⟨g, 4, none⟩ = some v4 ∧ w.cell? ⟨g, 5, none⟩ = some v5 ∧ w.frozen? ⟨g, 0, none⟩ = false ∧ w.frozen? ⟨g, 1, none⟩ = false ∧ w.frozen? ⟨g, 2, none⟩ = false ∧ w.frozen? ⟨g, 3, none⟩ = false ∧ w.frozen? ⟨g, 4, none⟩ = false ∧ w.frozen? ⟨g, 5, none⟩ = false := ⟨(blk_cell h.out 0).trans rfl, (blk_cell h.out 1).trans rfl, (blk_cell h.out 2).trans rfl, (blk_cell h.out 3).trans rfl, (blk_cell h.out 4).trans rfl, (blk_cell h.out 5).trans rfl, blk_frozen h.out 0, blk_frozen h.out 1, blk_frozen h.out 2, blk_frozen h.out 3, blk_frozen h.out 4, blk_frozen h.out 5⟩
end
section
variable {rest : List Oper} {o : Oper} {a : Act}
theorem bx_ (N : Tmp) (cs : Array Value) (t : TypeId) {W : World} (hgd : o.guard = none) (hd : o.dst = some N)
    (hrun : (execOp a.eval o).run P W = .ok (.value (.pointer (some ⟨W.heap.size, 0, none⟩))) (W.alloc (.cells cs t (0, 0))))
    (h : ∀ g, g = W.heap.size → ∀ w1, w1.heap[g]? = some (.cells cs t (0, 0)) → Below W.heap.size W w1 → wpList P ops Q rest (a.put o.dst (.pointer (some ⟨g, 0, none⟩))) w1) : wpList P ops Q (o :: rest) a W := box_event hgd hd hrun h
end
theorem less_swap : ∀ a b : List UInt8, (!(Op.bytesLess a b || a == b)) = Op.bytesLess b a
  | [], [] => by simp [Op.bytesLess]
  | [], _ :: _ => by simp [Op.bytesLess]
  | _ :: _, [] => by simp [Op.bytesLess]
  | x :: a, y :: b => by
    have ih := less_swap a b
    simp only [Op.bytesLess]
    rcases Nat.lt_trichotomy x.toNat y.toNat with h | h | h
    · have h1 : x < y := h
      have h2 : ¬ y < x := fun h' => by have := UInt8.lt_iff_toNat_lt.mp h'; omega
      have h3 : (y == x) = false := by rw [beq_eq_false_iff_ne]; intro e; rw [e] at h; omega
      simp [h1, h2, h3]
    · have e : x = y := UInt8.toNat_inj.mp h
      subst e
      have h2 : ¬ x < x := fun h' => by have := UInt8.lt_iff_toNat_lt.mp h'; omega
      simp only [h2, decide_false, Bool.false_or, beq_self_eq_true, Bool.true_and]
      rw [← ih]
      congr 1
      congr 1
      simp [List.cons_beq_cons]
    · have h1 : y < x := h
      have h2 : ¬ x < y := fun h' => by have := UInt8.lt_iff_toNat_lt.mp h'; omega
      have h3 : (x == y) = false := by rw [beq_eq_false_iff_ne]; intro e; rw [e] at h; omega
      simp [h1, h2, h3]
theorem gtr_str (t : TypeId) (a b : ByteArray) : binOp .gtr t (.string a) (.string b) = pure (.bool (Op.bytesLess b.toList a.toList)) := by
  rw [← less_swap]
  simp [binOp, Op.stringOp]
theorem leq_str (t : TypeId) (a b : ByteArray) : binOp .leq t (.string a) (.string b) = pure (.bool (!Op.bytesLess b.toList a.toList)) := by
  rw [← less_swap]
  simp [binOp, Op.stringOp]
end Go.Proofs.YtdkfhlfojleejaaW.PrintLast
