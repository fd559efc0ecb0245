/-
  A range over a function, step by step: the statement is entered; a round; its end.
-/
import Derived.RangeFuncLeaves
import Derived.RangeFuncRecord
import Derived.RangeFuncSeq
import Derived.RangeFuncCalls
namespace Go.Proofs.Ytdkfhlfojleejaa.RF
open Go Go.RowKit
variable {F : Fence} {n m : Nat} {P : Program}
/-- The record of the loop that the statement lays. -/
def recOf (fn : FuncId) (tmps : Array Value) (ps : Array Tmp) (assign body : Code) (D : Nat) (st : LoopState) (pe : Option Code) : Loop := { state := st, pending := pe, fn, tmps, params := ps, assign, body, defers := D }
theorem range_enter {g : Operand} {ps : Array Tmp} {assign body : Code} {Q : Exit → Act → World → Prop} {a : Act} {w : World}
    (hro : F.round = none) (h1 : 1 ≤ n) {gf : Nat} {lb : Array Value} (hg : a.eval g = .func (.func gf) #[] lb) (hFg : F.fn gf) (eg : ∀ args w, (callFunc gf args).run P w = .ok (.enter gf args) w)
    (h : ∀ fn, F.fn fn → CallsIn F (n - 1) P gf (#[.func (.yield (w.heap.size + 1)) #[] #[]] ++ lb) ((w.alloc (.deferred (some []))).alloc (.loop (recOf fn a.tmps ps assign body w.heap.size .ready none))) fun e W2 => ∃ v, e = .returned v ∧
      ((W2.heap[w.heap.size + 1]? = some (.loop (recOf fn a.tmps ps assign body w.heap.size .ready none)) ∧
          Q .normal { a with defers := { target := .collected w.heap.size, args := #[] } :: a.defers } (W2.putObj (w.heap.size + 1) (.loop (recOf fn a.tmps ps assign body w.heap.size .exhausted none)))) ∨
        ∃ c, W2.heap[w.heap.size + 1]? = some (.loop (recOf fn a.tmps ps assign body w.heap.size .done (some c))) ∧
          c.wpIn F n P Q { a with defers := { target := .collected w.heap.size, args := #[] } :: a.defers } (W2.putObj (w.heap.size + 1) (.loop (recOf fn a.tmps ps assign body w.heap.size .exhausted (some c)))))) :
    (Code.rangeFunc g ps assign body).wpIn F n P Q a w := by
  refine wpIn_rangeFunc fun fn hfn => ?_
  rw [hro]
  obtain ⟨W1, hW1⟩ : ∃ W1, (w.alloc (.deferred (some []))).alloc (.loop (recOf fn a.tmps ps assign body w.heap.size .ready none)) = W1 := ⟨_, rfl⟩
  have h := h fn hfn
  rw [hW1] at h
  refine ⟨w.heap.size + 1, [{ target := .collected w.heap.size, args := #[] }], W1, { target := .fn (.func gf) lb, args := #[.func (.yield (w.heap.size + 1)) #[] #[]] }, W1, gf,
    #[.func (.yield (w.heap.size + 1)) #[] #[]] ++ lb, W1, ?_, ?_, ?_, ?_, fun _ => h1, ?_⟩
  · rw [← hW1]; exact run_enterLoop_outer _ _ _ _ _
  · simp only [resolve, hg]
    simp [go_sem]
  · intro f' hf'
    simp [Target.leads] at hf'
    subst hf'
    exact hFg
  · simp [invoke, go_sem, eg]
  · refine h.mono ?_
    rintro e W2 ⟨v, rfl, ⟨hl, hq⟩ | ⟨c, hl, hq⟩⟩
    · exact ⟨none, _, run_endLoop hl (fun e => by cases e), hq⟩
    · exact ⟨some c, _, run_endLoop hl (fun e => by cases e), hq⟩
/-- How a round's body may be left. -/
def endR (l : Nat) (r : Loop) (R : Ending → World → Prop) : Exit → Act → World → Prop
  | .normal, _, w => w.heap[l]? = some (.loop { r with state := .busy }) ∧ R (.returned (.bool true)) (w.putObj l (.loop { r with state := .ready, pending := none }))
  | .ret, _, w => w.heap[l]? = some (.loop { r with state := .busy }) ∧ R (.returned (.bool false)) (w.putObj l (.loop { r with state := .done, pending := some .ret }))
  | _, _, _ => False
theorem yield_round {l : Nat} {r : Loop} {args : Array Value} {W : World} {R : Ending → World → Prop} (hl : W.heap[l]? = some (.loop r)) (hr : r.state = .ready) (hs : args.size = r.params.size) (hF : F.fn r.fn)
    (h : r.assign.wpIn (F.inRound l) m P (Exit.then (fun a1 w1 => w1.heap[l]? = some (.loop r) ∧ r.body.wpIn (F.inRound l) m P (endR l r R) a1 (w1.putObj l (.loop { r with state := .busy }))) (fun _ _ _ => False))
      { tmps := (r.params.zip args).foldl (fun tmps (t, a) => tmps.setIfInBounds t a) r.tmps, defers := [] } W) :
    YieldAt F m P l args W R := by
  refine ⟨r.fn, _, r.assign, r.body, run_yield hl hs, roundIn_of_wpIn hF (wpIn_mono h ?_)⟩
  rintro e a1 w1 hq
  cases e with
  | normal =>
    obtain ⟨hl1, hb⟩ := hq
    refine ⟨_, run_beginRound hl1 hr, wpIn_mono hb ?_⟩
    rintro e a2 w2 hq2
    cases e with
    | normal => obtain ⟨h2, hR⟩ := hq2; exact ⟨_, _, run_endRound none h2, hR⟩
    | ret => obtain ⟨h2, hR⟩ := hq2; exact ⟨_, _, run_endRound (some .ret) h2, hR⟩
    | _ => exact hq2.elim
  | _ => exact hq.elim
end Go.Proofs.Ytdkfhlfojleejaa.RF
