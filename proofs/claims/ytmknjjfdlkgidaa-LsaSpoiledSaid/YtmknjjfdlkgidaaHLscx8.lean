-- LAID by wip/hand.py, a program of this repository, over the kit's print: contracts of our own are put in. Lean checks it.
import Derived.Test.YtmknjjfdlkgidaaHLscx0
import Derived.Test.YtmknjjfdlkgidaaHLscx5
namespace Go.Proofs.Ytmknjjfdlkgidaa.HLsc
open Go.RowKit Go.Proofs.YtmknjjfdlkgidaaW.PrintWords Go.Proofs.YtmknjjfdlkgidaaW.PrintLast Go.Proofs.YtmknjjfdlkgidaaW.PrintMore
attribute [local go_sem] gtr_str leq_str max2_int min2_int max_two min_two max_three min_three max_four min_four   -- for this text's walks alone
set_option linter.unusedVariables false
set_option linter.unusedSimpArgs false

/-! ### codec_Decode: function 38 -/
section
attribute [local go_sem] Oper.semAt_some
abbrev CRec := S52
def codec_Decode.l0 : Nat → List Int → List (S52) → Option (List (S52) × Int)
 | 0, _, _ => none
 | k + 1, b, out => if 0 < b.length then (if b.length < 3 then some ([], 4) else (if rd b 0 = 0 then some ([], 4) else (if 0 ≤ rd b 0 ∧ rd b 0 ≤ 255 ∧ 0 ≤ rd b 1 ∧ rd b 1 ≤ 255 ∧ 0 ≤ rd b 2 ∧ rd b 2 ≤ 255 then (if (b.length : Int) < 3 + rd b 1 * 256 + rd b 2 then some ([], 4) else (if out.length < 4398046511104 then (codec_Decode.l0 k (b.drop (3 + rd b 1 * 256 + rd b 2).toNat) (out ++ [(⟨rd b 0, (b.take (3 + rd b 1 * 256 + rd b 2).toNat).drop 3⟩ : S52)])) else none)) else none))) else some (out, 0)
def codec_Decode.f (k : Nat) (l0 : List Int) : Option (List (S52) × Int) := codec_Decode.l0 k l0 []
/-- The call's blocks: two results, out, the iterator's b; the loop's two. -/
structure DSt (z : Nat) (rec : Loop) (w0 W : World) (b : List Int) (out : List CRec) : Prop where
 hz : w0.heap.size = z
 c0 : W.heap[z]? = some (.cells #[.slice none 0 0] 53 (0, 0))
 c1 : W.heap[z + 1]? = some (.cells #[.int .i64 0] 29 (0, 0))
 c2 : ∃ v, W.heap[z + 2]? = some (.cells #[v] 53 (0, 0)) ∧ Kd.R k52 52 W (z + 6) (fun _ => True) v out
 c3 : ∃ A c, W.heap[z + 3]? = some (.cells #[.slice A b.length c] 28 (0, 0)) ∧ b.length ≤ c ∧ Kd.C (Kd.int .u8) w0 A b.length b
 d : W.heap[z + 4]? = some (.deferred (some []))
 l : W.heap[z + 5]? = some (.loop rec)
 below : Below z w0 W
theorem records_in (A : Option Addr) (n c m : Nat) (w : World) : CallsIn Fence.wide m Try.prog 60 #[.slice A n c] w fun e w' => e = .returned (.func (.func 64) #[] #[.pointer (some ⟨w.heap.size, 0, none⟩)]) ∧ w' = w.alloc (.cells #[.slice A n c] 28) := by
 refine callsIn_of_wp Try.func60 rfl trivial ?_ rfl
 simp only [Try.ntmps60, List.size_toArray, List.length_cons, List.length_nil, Nat.reduceAdd, Nat.reduceSub, Array.replicate_succ, Array.replicate_zero, List.push_toArray, List.append_toArray, List.nil_append, List.cons_append]
 gi_wp2
 go_ret
 exact ⟨rfl, rfl⟩
section
variable {F : Fence} {n : Nat} {P : Program} {ops : Array Oper} {rest : List Oper} {o : Oper} {a : Act} {Q : Exit → Act → World → Prop} {α : Type}
/-- append(v, x), inside a fence. -/
theorem R_append_in (d : Kd α) {w0 W : World} (base : Nat) (hgd : o.guard = none) (s x : Operand) (t e : TypeId) (z : Value) (bytes : Nat)
  (ho : o.op = .call { callee := .builtin .append, args := #[s, x], argTypes := #[t, t] })
  (ht : P.underlying t = some (.slice e)) (hinfo : (P.info? e).map (fun i => (i.zero, i.size, i.bytes)) = some (some z, d.sz, bytes)) (hz : z.cells.size = d.sz) (hs0 : 0 < d.sz) (hb0 : 0 < bytes)
  (v : Value) (xs : List α) (p : α) (cs : List Value) (ok okp : Nat → Prop) (hs : a.eval s = v) (hx : a.eval x = .slice (some ⟨W.heap.size, 0, none⟩) 1 1) (hp : d.M W base okp p cs) (hokp : ∀ k, okp k → ok k ∧ some k ≠ v.ownBlock) (hfresh : ∀ k, W.heap.size ≤ k → ok k)
  (HO : d.R e W base ok v xs) (HB : Below base w0 W) (hbase : base ≤ W.heap.size) (hl : (xs.length + 1) * bytes ≤ 140737488355328)
  (h : ∀ v1 w1, d.R e w1 base ok v1 (xs ++ [p]) → Below base w0 w1 → W.grownBy w1 v.ownBlock → (v1.ownBlock = v.ownBlock ∨ ∃ b, v1.ownBlock = some b ∧ W.heap.size ≤ b) → wpListIn F n P ops Q rest (a.put o.dst v1) w1) :
  wpListIn F n P ops Q (o :: rest) a (W.alloc (.cells cs.toArray e)) := by
 obtain ⟨h0, inner, hown, hr⟩ := HO
 obtain ⟨i0, hi, hzz⟩ := Option.map_eq_some_iff.1 hinfo
 simp only [Prod.mk.injEq] at hzz
 obtain ⟨hz0, hz1, hz2⟩ := hzz
 have hlen : xs.length + 1 ≤ 140737488355328 := Nat.le_trans (Nat.le_mul_of_pos_right _ hb0) hl
 have hys : cs.length = d.sz := d.K_len (d.K_of_M hp)
 refine wpListIn_plain hgd fun K hK' => ?_
 obtain ⟨v1, w1, hrun, hown1, hg, _, hat⟩ := run_append_own_at (P := P) (W.alloc (.cells cs.toArray e)) base t o.type e i0 z d.sz bytes ht hi hz0 hz1 hz2 hz hs0 v xs.length inner (hown.alloc _) ⟨W.heap.size, 0, none⟩ 1 1 cs (by rw [hys]; simp)
  (by simpa using World.news_of_block (cs := cs.toArray) (t := e) (fr := (0, 0)) (heap_alloc_new W (.cells cs.toArray e))) (d.K_one (d.K_of_M hp)) (by simp only [maxLen]; omega) hl (by simp; omega)
 unfold Oper.wpIn
 refine ⟨?_, ?_⟩
 ·simp [Oper.about, ho, resolve, Target.leads, Sem.run_pure]
 ·rw [Oper.semAt_plain F _ _ (by rw [ho]; intro c hc'; cases hc')]
  simp [execOp, ho, resolve, invoke, builtin, hs, hx, hrun, Result.andThen]
  have hg2 := World.grownBy.trans (World.grownBy_alloc W (.cells cs.toArray e) _) hg
  have hat2 : v1.ownBlock = v.ownBlock ∨ ∃ b, v1.ownBlock = some b ∧ W.heap.size ≤ b := by
   rcases hat with hat | hat
   ·exact .inl hat
   ·exact .inr ⟨_, hat, by simp⟩
  exact hK' _ _ (h v1 w1 (Kd.R_appended h0 hr hp hokp hfresh hown1 hg2 hat2) ((HB.alloc hbase _).grown hg (by simp; omega) (own_base hown)) hg2 hat2)
end
theorem DSt.size {z : Nat} {rec : Loop} {w0 W : World} {b : List Int} {out : List CRec} (h : DSt z rec w0 W b out) : z + 6 ≤ W.heap.size := by
 have := (Array.getElem?_eq_some_iff.1 h.l).1
 omega
theorem DSt.move {z : Nat} {rec : Loop} {w0 W W' : World} {b : List Int} {out : List CRec} (h : DSt z rec w0 W b out) (hb : Below W.heap.size W W') : DSt z rec w0 W' b out := by
 have hs := h.size
 obtain ⟨v, h2, hr⟩ := h.c2
 obtain ⟨A, c, h3, hl, hC⟩ := h.c3
 exact ⟨h.hz, (hb.block _ (by omega)).trans h.c0, (hb.block _ (by omega)).trans h.c1, ⟨v, (hb.block _ (by omega)).trans h2, Kd.R_below hr hb⟩, ⟨A, c, (hb.block _ (by omega)).trans h3, hl, hC⟩, (hb.block _ (by omega)).trans h.d, (hb.block _ (by omega)).trans h.l, h.below.trans (hb.mono (by omega))⟩
theorem DSt.set {z : Nat} {rec : Loop} {w0 W : World} {b b2 : List Int} {out : List CRec} {A2 : Option Addr} {c2 : Nat} (h : DSt z rec w0 W b out) (hl : b2.length ≤ c2) (hC : Kd.C (Kd.int .u8) w0 A2 b2.length b2) : DSt z rec w0 (W.setCell ⟨z + 3, 0, none⟩ (.slice A2 b2.length c2)) b2 out := by
 obtain ⟨v, h2, hr⟩ := h.c2
 obtain ⟨A, c, h3, _, _⟩ := h.c3
 refine ⟨h.hz, blk_far h.c0 (show z ≠ z + 3 by omega) _, blk_far h.c1 (show z + 1 ≠ z + 3 by omega) _, ⟨v, blk_far h2 (show z + 2 ≠ z + 3 by omega) _, ?_⟩, ⟨A2, c2, blk_put h3 0 _ rfl, hl, hC⟩, (Below.heap_setCell _ _ _ _ (by simp)).trans h.d, (Below.heap_setCell _ _ _ _ (by simp)).trans h.l, h.below.setCell (p := ⟨z + 3, 0, none⟩) (by simp) _⟩
 exact Kd.R_mono (Kd.R_far (p := ⟨z + 3, 0, none⟩) (Kd.R_bound hr) (fun k hk => by have := hk.2.1; simp only; omega) _) (fun _ _ => trivial)
/-- A round has said 'no more'. -/
structure DNo (z : Nat) (rec : Loop) (w0 W : World) : Prop where
 c0 : W.heap[z]? = some (.cells #[.slice none 0 0] 53 (0, 0))
 c1 : W.heap[z + 1]? = some (.cells #[.int .i64 4] 29 (0, 0))
 d : W.heap[z + 4]? = some (.deferred (some []))
 l : W.heap[z + 5]? = some (.loop rec)
 below : Below z w0 W
theorem DSt.cells {z : Nat} {rec : Loop} {w0 W : World} {b : List Int} {out : List CRec} (h : DSt z rec w0 W b out) : ∃ A c, W.cell? ⟨z + 3, 0, none⟩ = some (.slice A b.length c) ∧ W.frozen? ⟨z + 3, 0, none⟩ = false ∧ b.length ≤ c ∧ Kd.C (Kd.int .u8) W A b.length b ∧ Kd.C (Kd.int .u8) w0 A b.length b := by
 obtain ⟨A, c, h3, hl, hC⟩ := h.c3
 exact ⟨A, c, (blk_cell h3 0).trans rfl, blk_frozen h3 0, hl, Kd.C_below hC (h.hz ▸ h.below), hC⟩
def DPost (z : Nat) (r1 r2 : Loop) (w0 : World) (r : List CRec) (e : Int) (en : Ending) (W' : World) : Prop := (∃ v, en = .returned v) ∧ ((e = 0 ∧ DSt z r1 w0 W' [] r) ∨ (e = 4 ∧ r = [] ∧ DNo z r2 w0 W'))
def dleft (z : Nat) (W : World) : Nat := match W.cell? ⟨z + 3, 0, none⟩ with | some (.slice _ n _) => n | _ => 0
set_option maxHeartbeats 8000000 in
set_option maxRecDepth 100000 in
theorem dec_iter (z : Nat) (r1 r2 : Loop) (w0 : World) (hz : w0.heap.size = z)
  (hy1 : ∀ W1 W b out t v val, DSt z r1 w0 W1 b out → Below W1.heap.size W1 W → Kd.R (Kd.int .u8) 5 W W1.heap.size (fun _ => True) v val → out.length < 4398046511104 →
   YieldAt Fence.wide 3 Try.prog (z + 5) #[.agg #[.int .i64 t, v], .bool true] W fun e W' => e = .returned (.bool true) ∧ DSt z r1 w0 W' b (out ++ [⟨t, val⟩]))
  (hy0 : ∀ W b out, DSt z r1 w0 W b out → YieldAt Fence.wide 3 Try.prog (z + 5) #[.agg #[.int .i64 0, .slice none 0 0], .bool false] W fun e W' => e = .returned (.bool false) ∧ DNo z r2 w0 W')
  (k : Nat) (W : World) (b : List Int) (out : List CRec) (r : List CRec) (e : Int) (hD : DSt z r1 w0 W b out) (h : codec_Decode.l0 k b out = some (r, e)) :
  CallsIn Fence.wide 4 Try.prog 64 #[.func (.yield (z + 5)) #[] #[], .pointer (some ⟨z + 3, 0, none⟩)] W (DPost z r1 r2 w0 r e) := by
 have hmo : Try.prog.follows .mixedOrders = true := by kernel_rfl
 have HD := Aside0.mk hD
 have HH := Aside0.mk h
 clear hD h
 refine callsIn_of_wp Try.func64 rfl trivial ?_ rfl
 simp only [Try.ntmps64, List.size_toArray, List.length_cons, List.length_nil, Nat.reduceAdd, Nat.reduceSub, Array.replicate_succ, Array.replicate_zero, List.push_toArray, List.append_toArray, List.nil_append, List.cons_append]
 gi_wp2
 gi_loopw [3] (fun v3 wr => ∃ (k' : Nat) (b' : List Int) (out' : List CRec), Aside0 (DSt z r1 w0 wr b' out') ∧ Aside0 (codec_Decode.l0 k' b' out' = some (r, e))) (fun _ wr => dleft z wr)
 case atStart => exact ⟨k, b, out, HD, HH⟩
 case round =>
  clear HD HH
  obtain ⟨k', b', out', HD, HH⟩ := hrel
  obtain ⟨A, c, hc3, hf3, hle, hC, _⟩ := HD.out.cells
  have HC := Aside0.mk hC
  have hmax := hC.2.1
  have HL := Aside0.mk hle
  clear hC hle
  have HM0 := Aside0.mk (show dleft z wr = b'.length from by unfold dleft; rw [hc3])
  obtain ⟨k', rfl⟩ : ∃ j, k' = j + 1 := by
   cases k' with
   | zero => have h := HH.out; simp [codec_Decode.l0] at h
   | succ j => exact ⟨j, rfl⟩
  have hh := HH.out
  simp only [codec_Decode.l0] at hh
  clear HH
  by_cases h0 : 0 < b'.length
  rotate_left
  ·rw [if_neg h0] at hh
   obtain ⟨rfl, rfl⟩ := Prod.mk.inj (Option.some.inj hh)
   obtain rfl : b' = [] := List.eq_nil_of_length_eq_zero (by omega)
   clear hh h0
   simp only [List.length_nil] at hc3
   gi_wp2
   go_end0
   exact ⟨⟨_, rfl⟩, .inl ⟨rfl, HD.out⟩⟩
  rw [if_pos h0] at hh
  by_cases h3 : b'.length < 3
  ·rw [if_pos h3] at hh
   obtain ⟨rfl, rfl⟩ := Prod.mk.inj (Option.some.inj hh)
   clear hh
   obtain ⟨fn, tmps, asg, bdy, hy, hR⟩ := hy0 wr b' out' HD.out
   gi_wp2
   refine hR.mono ?_
   rintro en W3 ⟨rfl, hno⟩
   gi_wp2
   refine bodyPost_ret (results_none rfl _ _ _) rfl ?_
   exact ⟨⟨_, rfl⟩, .inr ⟨rfl, rfl, hno⟩⟩
  rw [if_neg h3] at hh
  obtain ⟨ad, hA, hc0⟩ := Kd.at_int HC.out 0 (by omega) (by omega)
  obtain ⟨ad', hA', hc1⟩ := Kd.at_int HC.out 1 (by omega) (by omega)
  obtain ⟨ad'', hA'', hc2⟩ := Kd.at_int HC.out 2 (by omega) (by omega)
  subst hA
  obtain rfl := Option.some.inj hA'
  obtain rfl := Option.some.inj hA''
  clear hA' hA''
  have hk0 : wr.cell? ad = some (.int .u8 (rd b' 0)) := by simpa [Addr.add] using hc0
  have hk1 : wr.cell? ⟨ad.block, ad.off + 1, none⟩ = some (.int .u8 (rd b' 1)) := hc1
  have hk2 : wr.cell? ⟨ad.block, ad.off + 2, none⟩ = some (.int .u8 (rd b' 2)) := hc2
  have q3 : decide ((b'.length : Int) < 3) = false := decide_eq_false (by omega)
  have i0 : (0 : Int) < b'.length := by omega
  have i1 : (1 : Int) < b'.length := by omega
  have i2 : (2 : Int) < b'.length := by omega
  clear hc0 hc1 hc2
  by_cases hz0 : rd b' 0 = 0
  ·rw [if_pos hz0] at hh
   obtain ⟨rfl, rfl⟩ := Prod.mk.inj (Option.some.inj hh)
   rw [hz0] at hk0
   clear hh hz0
   obtain ⟨fn, tmps, asg, bdy, hy, hR⟩ := hy0 wr b' out' HD.out
   gi_wp2
   refine hR.mono ?_
   rintro en W3 ⟨rfl, hno⟩
   gi_wp2
   refine bodyPost_ret (results_none rfl _ _ _) rfl ?_
   exact ⟨⟨_, rfl⟩, .inr ⟨rfl, rfl, hno⟩⟩
  rw [if_neg hz0] at hh
  have qz : (rd b' 0 == 0) = false := by simpa using hz0
  clear hz0
  have z1 : (0 : Int) ≤ 1 := by decide
  have z2 : (0 : Int) ≤ 2 := by decide
  by_cases hbt : 0 ≤ rd b' 0 ∧ rd b' 0 ≤ 255 ∧ 0 ≤ rd b' 1 ∧ rd b' 1 ≤ 255 ∧ 0 ≤ rd b' 2 ∧ rd b' 2 ≤ 255
  rotate_left
  ·rw [if_neg hbt] at hh
   cases hh
  rw [if_pos hbt] at hh
  obtain ⟨b00, b01, b10, b11, b20, b21⟩ := hbt
  obtain ⟨E, hE⟩ : ∃ E : Int, 3 + rd b' 1 * 256 + rd b' 2 = E := ⟨_, rfl⟩
  rw [hE] at hh
  have hE0 : 3 ≤ E := by omega
  have HE := Aside0.mk hE
  clear hE
  by_cases hL : (b'.length : Int) < E
  ·rw [if_pos hL] at hh
   obtain ⟨rfl, rfl⟩ := Prod.mk.inj (Option.some.inj hh)
   clear hh
   gi_wp2
   gi_big_quiet_th_o (fail)
   rw [HE.out]
   have HD2 := HD.out.move (pw_below_drewN (Below.refl _ _) nq)
   obtain ⟨fn, tmps, asg, bdy, hy, hR⟩ := hy0 (wr.drewN nq) b' out' HD2
   gi_wp2
   refine hR.mono ?_
   rintro en W3 ⟨rfl, hno⟩
   gi_wp2
   refine bodyPost_ret (results_none rfl _ _ _) rfl ?_
   exact ⟨⟨_, rfl⟩, .inr ⟨rfl, rfl, hno⟩⟩
  rw [if_neg hL] at hh
  by_cases hN : out'.length < 4398046511104
  rotate_left
  ·rw [if_neg hN] at hh
   cases hh
  rw [if_pos hN] at hh
  have HH := Aside0.mk hh
  have HN := Aside0.mk hN
  clear hh hN
  have qE : decide ((b'.length : Int) < E) = false := decide_eq_false hL
  have qE1 : E ≤ (b'.length : Int) := by omega
  clear hL
  gi_wp2
  gi_big_quiet_th_o (fail)
  rw [HE.out]
  have HD2 := Aside0.mk (HD.out.move (pw_below_drewN (Below.refl _ _) nq))
  have HC2 := Aside0.mk (Kd.C_drewN HC.out nq)
  obtain ⟨wd, hwd⟩ : ∃ wd, wr.drewN nq = wd := ⟨_, rfl⟩
  have hd3 : wd.cell? ⟨z + 3, 0, none⟩ = some (.slice (some ad) b'.length c) := by rw [← hwd]; exact hc3
  have hd0 : wd.cell? ad = some (.int .u8 (rd b' 0)) := by rw [← hwd]; exact hk0
  rw [hwd] at HD2 HC2 ⊢
  clear hwd hc3 hk0 hk1 hk2 hf3
  obtain ⟨i05, hi5, _, hsz5, _⟩ := info_parts info5
  obtain ⟨val, hval⟩ : ∃ val : List Int, (b'.take E.toNat).drop 3 = val := ⟨_, rfl⟩
  obtain ⟨Am, hAm⟩ : ∃ Am : Option Addr, (if c = 3 then some ad else (some ad : Option Addr).map (·.add (3 * 1))) = Am := ⟨_, rfl⟩
  have hvl : val.length = E.toNat - 3 := by rw [← hval, List.length_drop, List.length_take]; omega
  have hcut : ∀ W : World, (Instr.slice 28 (.slice (some ad) b'.length c) (some (.int .i64 3)) (some (.int .i64 E)) none).run Try.prog W = .ok (.slice Am val.length (c - 3)) W := by
   intro W
   have h := cut_mid (P := Try.prog) 28 5 .i64 .i64 Try.underlying28 hi5 1 hsz5 (some ad) b'.length c 3 E (by decide) (by omega) qE1 HL.out W
   rw [h, hvl, ← hAm]
   rfl
  have HCm := Aside0.mk (show Kd.C (Kd.int .u8) wd Am val.length val from by
   have h := Kd.C_mid (lo := 3) (hi := E.toNat) (c := c) HC2.out (by omega) (by omega) HL.out
   rw [hval] at h
   rw [← hAm]
   exact h)
  have HCl := Aside0.mk (show val.length ≤ c - 3 from by have := HL.out; omega)
  have HF := Aside0.mk (show slices_Clone_byte_byte.f val = some val from by
   have h1 := HE.out
   have : val.length < 140737488355328 := by omega
   simp [slices_Clone_byte_byte.f, this])
  have Hval := Aside0.mk hval
  clear hval hAm hvl
  gi_wp2
  gi_region_with_o (first
   | (refine ⟨trivial, ?_⟩; gi_at_call 56; refine (CallsIn.mono (callsIn_wide.2 (slices_Clone_byte_byte.calls Am (c - 3) val val _ (Kd.C_drew HCm.out) HCl.out HF.out))) ?_; rintro e w3 ⟨v3, rfl, hR3, hB3⟩; obtain ⟨A3, c3, rfl⟩ := Kd.R_slice hR3; have e0 : w3.cell? ad = some (.int .u8 (rd b' 0)) := (hB3.cell (World.block_lt_of_cell? wd _ hd0)).trans hd0; have e3 : w3.cell? ⟨z + 3, 0, none⟩ = some (.slice (some ad) b'.length c) := (hB3.cell (World.block_lt_of_cell? wd _ hd3)).trans hd3; obtain ⟨fn, tmps, asg, bdy, hy, hRd⟩ := hy1 wd.drew w3 b' out' (IntKind.i64.wrap (rd b' 0)) _ val (HD2.out.move (below_drew1 (Below.refl _ _))) hB3 hR3 HN.out)
   | (refine hRd.mono ?_; rintro en W3 ⟨rfl, hD3⟩))
  all_goals
   rw [show IntKind.i64.wrap (rd b' 0) = rd b' 0 from IntWalk.i64_in _ (by omega)] at hD3
   obtain ⟨A4, c4, hc4, hf4, hle4, _, hC4⟩ := hD3.cells
   obtain ⟨rest, hrest⟩ : ∃ rest : List Int, b'.drop E.toNat = rest := ⟨_, rfl⟩
   have hrl : rest.length = b'.length - E.toNat := by rw [← hrest, List.length_drop]
   obtain ⟨A5, hA5⟩ : ∃ A5 : Option Addr, (if c4 = E.toNat then A4 else (A4 : Option Addr).map (·.add (E.toNat * 1))) = A5 := ⟨_, rfl⟩
   have hcut4 : ∀ W : World, (Instr.slice 28 (.slice A4 b'.length c4) (some (.int .i64 E)) none none).run Try.prog W = .ok (.slice A5 rest.length (c4 - E.toNat)) W := by
    intro W
    have h := cut_from (P := Try.prog) 28 5 .i64 Try.underlying28 hi5 1 hsz5 A4 b'.length c4 E (by omega) qE1 W
    rw [h, hrl, ← hA5]
   have hC5 := Kd.C_drop (m := E.toNat) (c := c4) hC4 (by omega) hle4
   rw [hrest] at hC5
   have HS := Aside0.mk (hD3.set (b2 := rest) (A2 := A5) (c2 := c4 - E.toNat) (by omega) (by rw [← hA5]; exact hC5))
   have HM := Aside0.mk (show dleft z (W3.setCell ⟨z + 3, 0, none⟩ (.slice A5 rest.length (c4 - E.toNat))) < dleft z wr from by
    rw [HM0.out]
    have h := (HS.out).cells
    obtain ⟨A6, c6, h6, _⟩ := h
    unfold dleft
    rw [h6]
    simp only
    omega)
   have HH2 := Aside0.mk (show codec_Decode.l0 k' rest (out' ++ [⟨rd b' 0, val⟩]) = some (r, e) from by rw [← hrest, ← Hval.out]; exact HH.out)
   clear hrest hrl hA5 hC5 hC4 hle4 hD3
   gi_wp2
   go_roundw
   case rel => exact ⟨k', rest, _, HS, HH2⟩
   case measure => exact HM.out
end
section
attribute [local go_sem] Oper.semAt_some
theorem DSt.out_row {z : Nat} {rec : Loop} {w0 W : World} {b : List Int} {out : List CRec} (h : DSt z rec w0 W b out) : ∃ v, W.cell? ⟨z + 2, 0, none⟩ = some v ∧ W.frozen? ⟨z + 2, 0, none⟩ = false ∧ Kd.R k52 52 W (z + 6) (fun _ => True) v out ∧ W.heap[z + 2]? = some (.cells #[v] 53 (0, 0)) := by
 obtain ⟨v, h2, hr⟩ := h.c2
 exact ⟨v, (blk_cell h2 0).trans rfl, blk_frozen h2 0, hr, h2⟩
theorem hnew (w : World) (o : Obj) (k : Nat) (hk : w.heap.size = k) : (w.alloc o).heap[k]? = some o := hk ▸ World.alloc_heap_new w o
theorem R_deep {α : Type} {d : Kd α} {e : Nat} {W W' : World} {z : Nat} {v : Value} {xs : List α} (h : Kd.R d e W (z + 6) (fun _ => True) v xs) (hm : ∀ k, z + 6 ≤ k → k < W.heap.size → W'.heap[k]? = W.heap[k]?) : Kd.R d e W' z (fun _ => True) v xs :=
 Kd.R_mono (Kd.R_step (Kd.R_lower (Kd.R_bound h) (by omega)) (fun k hk hlt => hm k hk.2.1 hlt)) (fun _ _ => trivial)
set_option maxHeartbeats 8000000 in
set_option maxRecDepth 100000 in
theorem codec_Decode.calls (k : Nat) (A0 : Option Addr) (c0 : Nat) (l0 : List Int) (r1 : List (S52)) (r2 : Int) (w : World) (hr0 : Kd.C (Kd.int .u8) w A0 l0.length l0) (hc0 : l0.length ≤ c0) (h : codec_Decode.f k l0 = some (r1, r2)) :
  Calls Try.prog 38 #[.slice A0 l0.length c0] w fun e w' => ∃ v0_ : Value, e = .returned (.tuple #[v0_, .int .i64 r2]) ∧ Kd.R k52 52 w' w.heap.size (fun _ => True) v0_ r1 ∧ Below w.heap.size w w' := by
 have HH := Aside0.mk h
 have HR0 := Aside0.mk hr0
 have HC0 := Aside0.mk hc0
 clear h hr0 hc0
 refine (callsIn_wide (n := 5)).1 ?_
 refine callsIn_of_wp_marks Try.func38 rfl trivial ?_ rfl
 simp only [Try.ntmps38, List.size_toArray, List.length_cons, List.length_nil, Nat.reduceAdd, Nat.reduceSub, Array.replicate_succ, Array.replicate_zero, List.push_toArray, List.append_toArray, List.nil_append, List.cons_append]
 gi_wp2_with (refine ⟨trivial, ?_⟩; gi_at_call 60; refine (records_in A0 l0.length c0 _ _).mono ?_; rintro e w' ⟨rfl, rfl⟩)
 refine RF.range_enter rfl (by omega) (gf := 64) (lb := #[.pointer (some ⟨w.heap.size + 3, 0, none⟩)]) rfl trivial (enters_of Try.func64 (by kernel_rfl) rfl) ?_
 intro fn _
 obtain ⟨z, hz⟩ : ∃ z, w.heap.size = z := ⟨_, rfl⟩
 simp only [World.size_alloc, hz, Nat.add_assoc, Nat.reduceAdd]
 generalize hrec : RF.recOf fn _ #[9, 10] _ _ _ = rec
 have hzs : ∀ j, z ≤ z + j := fun j => Nat.le_add_right _ _
 have D0 : DSt z (rec .ready none) w ((((((w.alloc (.cells #[.slice none 0 0] 53)).alloc (.cells #[.int .i64 0] 29)).alloc (.cells #[.slice none 0 0] 53)).alloc (.cells #[.slice A0 l0.length c0] 28)).alloc (.deferred (some []))).alloc (.loop (rec .ready none))) l0 [] := by
  subst hz
  refine ⟨rfl, ?_, ?_, ⟨_, ?_, Kd.R_nil _ _ _ _ _⟩, ⟨A0, c0, ?_, HC0.out, HR0.out⟩, ?_, ?_, ?_⟩
  ·exact blk_alloc (blk_alloc (blk_alloc (blk_alloc (blk_alloc (hnew _ _ _ rfl) _) _) _) _) _
  ·exact blk_alloc (blk_alloc (blk_alloc (blk_alloc (hnew _ _ _ (by simp)) _) _) _) _
  ·exact blk_alloc (blk_alloc (blk_alloc (hnew _ _ _ (by simp)) _) _) _
  ·exact blk_alloc (blk_alloc (hnew _ _ _ (by simp)) _) _
  ·exact blk_alloc (hnew _ _ _ (by simp)) _
  ·exact hnew _ _ _ (by simp)
  ·exact ((((((Below.refl _ w).alloc (Nat.le_refl _) _).alloc (by simp) _).alloc (by simp; omega) _).alloc (by simp; omega) _).alloc (by simp; omega) _).alloc (by simp; omega) _
 refine (dec_iter z (rec .ready none) (rec .done (some .ret)) w hz ?y1 ?y0 k _ l0 [] r1 r2 D0 HH.out).mono ?_
 rotate_left 2
 ·rintro en W2 ⟨⟨v, rfl⟩, ⟨rfl, hD⟩ | ⟨rfl, rfl, hN⟩⟩
  ·refine ⟨_, rfl, .inl ⟨hD.l, ?_⟩⟩
   obtain ⟨u, hc2, hf2, hR2, hb2⟩ := hD.out_row
   obtain ⟨Au, cu, rfl⟩ := Kd.R_slice hR2
   have HR2 := Aside0.mk hR2
   have HD := Aside0.mk hD
   have p0 : (W2.putObj (z + 5) (.loop (rec .exhausted none))).heap[z]? = some (.cells #[.slice none 0 0] 53 (0, 0)) := (World.putObj_heap_other (by omega)).trans hD.c0
   have p1 : (W2.putObj (z + 5) (.loop (rec .exhausted none))).heap[z + 1]? = some (.cells #[.int .i64 0] 29 (0, 0)) := (World.putObj_heap_other (by omega)).trans hD.c1
   have p2 : (W2.putObj (z + 5) (.loop (rec .exhausted none))).heap[z + 2]? = some (.cells #[.slice Au r1.length cu] 53 (0, 0)) := (World.putObj_heap_other (by omega)).trans hb2
   have p4 : (W2.putObj (z + 5) (.loop (rec .exhausted none))).heap[z + 4]? = some (.deferred (some [])) := (World.putObj_heap_other (by omega)).trans hD.d
   have HP : Aside0 (Below z w (W2.putObj (z + 5) (.loop (rec .exhausted none)))) := ⟨hD.below.trans (belowK_b (w := w) (by omega) W2 (z + 5) _ _ (by omega) hD.l rfl rfl)⟩
   have HM : Aside0 (∀ k, z + 6 ≤ k → k < W2.heap.size → (W2.putObj (z + 5) (.loop (rec .exhausted none))).heap[k]? = W2.heap[k]?) := ⟨fun k hk _ => World.putObj_heap_other (by omega)⟩
   clear hD hR2 hb2 hc2 hf2 D0
   generalize W2.putObj (z + 5) (.loop (rec .exhausted none)) = W3 at p0 p1 p2 p4 HP HM ⊢
   have k0 : W3.cell? ⟨z, 0, none⟩ = some (.slice none 0 0) := (blk_cell p0 0).trans rfl
   have k1 : W3.cell? ⟨z + 1, 0, none⟩ = some (.int .i64 0) := (blk_cell p1 0).trans rfl
   have k2 : W3.cell? ⟨z + 2, 0, none⟩ = some (.slice Au r1.length cu) := (blk_cell p2 0).trans rfl
   have f0 := blk_frozen p0 0
   have f1 := blk_frozen p1 0
   have P0 := Aside0.mk p0
   have P1 := Aside0.mk p1
   have P4 := Aside0.mk p4
   clear p0 p1 p2 p4
   gi_wp2
   have q0 := blk_far (p := ⟨z + 1, 0, none⟩) (blk_put P0.out 0 (.slice Au r1.length cu) rfl) (show z ≠ z + 1 by omega) (.int .i64 0)
   have q1 := blk_put (blk_far (p := ⟨z, 0, none⟩) P1.out (show z + 1 ≠ z by omega) (.slice Au r1.length cu)) 0 (.int .i64 0) rfl
   have q4 : ((W3.setCell ⟨z, 0, none⟩ (.slice Au r1.length cu)).setCell ⟨z + 1, 0, none⟩ (.int .i64 0)).heap[z + 4]? = some (.deferred (some [])) := (Below.heap_setCell _ _ _ _ (by simp)).trans ((Below.heap_setCell _ _ _ _ (by simp)).trans P4.out)
   refine ⟨by simp, .inl ⟨_, _, rfl, run_takeDeferred q4, ?_⟩⟩
   have e0 : (((W3.setCell ⟨z, 0, none⟩ (.slice Au r1.length cu)).setCell ⟨z + 1, 0, none⟩ (.int .i64 0)).putObj (z + 4) (.deferred none)).cell? ⟨z, 0, none⟩ = some (.slice Au r1.length cu) := (blk_cell ((World.putObj_heap_other (by omega)).trans q0) 0).trans rfl
   have e1 : (((W3.setCell ⟨z, 0, none⟩ (.slice Au r1.length cu)).setCell ⟨z + 1, 0, none⟩ (.int .i64 0)).putObj (z + 4) (.deferred none)).cell? ⟨z + 1, 0, none⟩ = some (.int .i64 0) := (blk_cell ((World.putObj_heap_other (by omega)).trans q1) 0).trans rfl
   refine ⟨.tuple #[.slice Au r1.length cu, .int .i64 0], by simp [results, Try.results38, go_sem, e0, e1], _, rfl, ?_, ?_⟩
   ·rw [hz]
    refine R_deep HR2.out (fun k h1 h2 => ?_)
    exact (World.putObj_heap_other (by omega)).trans ((Below.heap_setCell _ _ _ _ (show k ≠ z + 1 by omega)).trans ((Below.heap_setCell _ _ _ _ (show k ≠ z by omega)).trans (HM.out k h1 h2)))
   ·rw [hz]
    exact (((HP.out).setCell (p := ⟨z, 0, none⟩) (Nat.le_refl _) _).setCell (p := ⟨z + 1, 0, none⟩) (by simp) _).trans (belowK_b (w := w) (by omega) _ (z + 4) _ _ (by omega) q4 rfl rfl)
  ·refine ⟨_, rfl, .inr ⟨.ret, hN.l, ?_⟩⟩
   have p0 : (W2.putObj (z + 5) (.loop (rec .exhausted (some .ret)))).heap[z]? = some (.cells #[.slice none 0 0] 53 (0, 0)) := (World.putObj_heap_other (by omega)).trans hN.c0
   have p1 : (W2.putObj (z + 5) (.loop (rec .exhausted (some .ret)))).heap[z + 1]? = some (.cells #[.int .i64 4] 29 (0, 0)) := (World.putObj_heap_other (by omega)).trans hN.c1
   have p4 : (W2.putObj (z + 5) (.loop (rec .exhausted (some .ret)))).heap[z + 4]? = some (.deferred (some [])) := (World.putObj_heap_other (by omega)).trans hN.d
   have HP : Aside0 (Below z w (W2.putObj (z + 5) (.loop (rec .exhausted (some .ret))))) := ⟨hN.below.trans (belowK_b (w := w) (by omega) W2 (z + 5) _ _ (by omega) hN.l rfl rfl)⟩
   clear hN D0
   generalize W2.putObj (z + 5) (.loop (rec .exhausted (some .ret))) = W3 at p0 p1 p4 HP ⊢
   have P0 := Aside0.mk p0
   have P1 := Aside0.mk p1
   have P4 := Aside0.mk p4
   clear p0 p1 p4
   gi_wp2
   refine ⟨by simp, .inl ⟨_, _, rfl, run_takeDeferred P4.out, ?_⟩⟩
   have e0 : (W3.putObj (z + 4) (.deferred none)).cell? ⟨z, 0, none⟩ = some (.slice none 0 0) := (blk_cell ((World.putObj_heap_other (by omega)).trans P0.out) 0).trans rfl
   have e1 : (W3.putObj (z + 4) (.deferred none)).cell? ⟨z + 1, 0, none⟩ = some (.int .i64 4) := (blk_cell ((World.putObj_heap_other (by omega)).trans P1.out) 0).trans rfl
   refine ⟨.tuple #[.slice none 0 0, .int .i64 4], by simp [results, Try.results38, go_sem, e0, e1], _, rfl, Kd.R_nil _ _ _ _ _, ?_⟩
   rw [hz]
   exact HP.out.trans (belowK_b (w := w) (by omega) _ (z + 4) _ _ (by omega) P4.out rfl rfl)
 ·-- a round
  intro W1 W b out t v val hD hB hR hlen
  obtain ⟨Av, cv, rfl⟩ := Kd.R_slice hR
  have HR := Aside0.mk hR
  have hD' := hD.move hB
  have hs := hD'.size
  have hsB := hB.size
  subst hrec
  refine RF.yield_round hD'.l rfl rfl trivial ?_
  have HD := Aside0.mk hD
  have HD' := Aside0.mk hD'
  have HB := Aside0.mk hB
  clear hD hD' hB hR D0
  dsimp only [RF.recOf]
  gi_wp2
  refine ⟨blk_alloc HD'.out.l _, ?_⟩
  generalize hbz : ({ state := LoopState.busy, pending := none, fn := fn, tmps := _, params := _, assign := _, body := _, defers := _ } : Loop) = bz
  obtain ⟨u, _, _, hRu, hbu⟩ := HD.out.out_row
  have hs1 := HD.out.size
  have hlu := Kd.R_lt hRu
  have hbase := Kd.R_base hRu
  have hbu2 := blk_below hbu HB.out
  have hRu2 := Kd.R_below hRu HB.out
  clear hRu hbu
  have hst : ∀ k, k ≠ z + 5 → k < W.heap.size → ((W.alloc (.cells #[.int .i64 t, .slice Av val.length cv] 52)).putObj (z + 5) (.loop bz)).heap[k]? = W.heap[k]? := fun k h1 h2 => (World.putObj_heap_other h1).trans (Below.heap_alloc _ _ _ h2)
  have P0 := Aside0.mk ((hst z (by omega) (by omega)).trans HD'.out.c0)
  have P1 := Aside0.mk ((hst (z + 1) (by omega) (by omega)).trans HD'.out.c1)
  have p2 := (hst (z + 2) (by omega) (by omega)).trans hbu2
  have P3 := Aside0.mk (hst (z + 3) (by omega) (by omega))
  have P4 := Aside0.mk ((hst (z + 4) (by omega) (by omega)).trans HD'.out.d)
  have P5 := Aside0.mk (show ((W.alloc (.cells #[.int .i64 t, .slice Av val.length cv] 52)).putObj (z + 5) (.loop bz)).heap[z + 5]? = some (.loop bz) from World.putObj_heap_same (by simp; omega))
  have p6 : ((W.alloc (.cells #[.int .i64 t, .slice Av val.length cv] 52)).putObj (z + 5) (.loop bz)).heap[W.heap.size]? = some (.cells #[.int .i64 t, .slice Av val.length cv] 52 (0, 0)) := (World.putObj_heap_other (by omega)).trans (World.alloc_heap_new _ _)
  have hsz : ((W.alloc (.cells #[.int .i64 t, .slice Av val.length cv] 52)).putObj (z + 5) (.loop bz)).heap.size = W.heap.size + 1 := by simp
  have HP := Aside0.mk ((HD'.out.below.alloc (by omega) (.cells #[.int .i64 t, .slice Av val.length cv] 52)).trans (belowK_b (w := w) (by omega) _ (z + 5) _ (.loop bz) (by omega) (blk_alloc HD'.out.l _) rfl rfl))
  have RO := Aside0.mk (Kd.R_mono (Kd.R_step (w1 := (W.alloc (.cells #[.int .i64 t, .slice Av val.length cv] 52)).putObj (z + 5) (.loop bz)) (Kd.R_bound hRu2) (fun k hk hlt => hst k (by have := hk.2.1; omega) hlt)) (fun _ _ => trivial) (ok' := fun _ => True))
  have RV := Aside0.mk (Kd.R_mono (Kd.R_step (w1 := (W.alloc (.cells #[.int .i64 t, .slice Av val.length cv] 52)).putObj (z + 5) (.loop bz)) (Kd.R_bound HR.out) (fun k hk hlt => hst k (by have := hk.2.1; omega) hlt)) (fun k hk => hk.2.1) (ok' := fun k => W1.heap.size ≤ k))
  clear hRu2 hbu2 hst
  generalize (W.alloc (.cells #[.int .i64 t, .slice Av val.length cv] 52)).putObj (z + 5) (.loop bz) = W4 at P0 P1 p2 P3 P4 P5 p6 hsz HP RO RV ⊢
  have k2 : W4.cell? ⟨z + 2, 0, none⟩ = some u := (blk_cell p2 0).trans rfl
  have k60 : W4.cell? ⟨W.heap.size, 0, none⟩ = some (.int .i64 t) := (blk_cell p6 0).trans rfl
  have k61 : W4.cell? ⟨W.heap.size, 1, none⟩ = some (.slice Av val.length cv) := (blk_cell p6 1).trans rfl
  have P2 := Aside0.mk p2
  have HSZ := Aside0.mk hsz
  clear p2 p6 hsz
  have HLU := Aside0.mk hlu
  have HBS := Aside0.mk hbase
  clear hlu hbase
  gi_wp2_with (gi_at_builtin; refine R_append_in k52 (w0 := W4) (z + 6) rfl _ _ 53 52 (.agg #[(.int .i64 0), (.slice none 0 0)]) 32 rfl Try.underlying53 info52 rfl (by decide) (by decide) u out ⟨t, val⟩ [.int .i64 t, .slice Av val.length cv] (fun _ => True) (fun k => W1.heap.size ≤ k) rfl rfl ?mk ?okp (fun _ _ => trivial) RO.out ?bel ?siz ?bnd ?_; (case mk => exact k52_mkM _ _ _ _ (Kd.R_lower RV.out (by omega))); (case okp => exact fun k hk => ⟨trivial, fun e => by have := HLU.out k e.symm; omega⟩); (case bel => exact Below.refl _ _); (case siz => have := HSZ.out; omega); (case bnd => omega); intro v1 w1 hRo hBo hg hat; obtain ⟨A', c', rfl⟩ := Kd.R_slice hRo; have g2 := Aside0.mk ((hg.block (z + 2) (blk_lt P2.out) (fun e => by have := HBS.out _ e.symm; omega)).trans P2.out); have kk2 : w1.cell? ⟨z + 2, 0, none⟩ = some u := (blk_cell g2.out 0).trans rfl; have ff2 := blk_frozen g2.out 0; have HG := Aside0.mk hg; have HRO := Aside0.mk hRo; have HBO := Aside0.mk hBo; clear hg hRo hBo hat)
  subst hbz
  have HRO2 := HRO.out
  rw [show (out ++ [(⟨t, val⟩ : CRec)]).length = out.length + 1 by simp] at HRO2
  have q2 := blk_put (cs' := #[.slice A' (out.length + 1) c']) g2.out 0 (.slice A' (out.length + 1) c') rfl
  have keep : ∀ k, k < z + 6 → k ≠ z + 2 → ((w1.setCell ⟨z + 2, 0, none⟩ (.slice A' (out.length + 1) c'))).heap[k]? = W4.heap[k]? := fun k h1 h2 => (Below.heap_setCell _ _ _ _ h2).trans (HBO.out.block k h1)
  have q5 := (keep (z + 5) (by omega) (by omega)).trans P5.out
  obtain ⟨A3, c3, hc3, hl3, hC3⟩ := HD'.out.c3
  refine ⟨q5, rfl, ⟨hz, ?_, ?_, ⟨_, (World.putObj_heap_other (by omega)).trans q2, ?_⟩, ⟨A3, c3, ?_, hl3, hC3⟩, ?_, World.putObj_heap_same (Array.getElem?_eq_some_iff.1 q5).1, ?_⟩⟩
  ·exact (World.putObj_heap_other (by omega)).trans ((keep z (by omega) (by omega)).trans P0.out)
  ·exact (World.putObj_heap_other (by omega)).trans ((keep (z + 1) (by omega) (by omega)).trans P1.out)
  ·refine Kd.R_mono (Kd.R_step (Kd.R_bound HRO2) (fun k hk hlt => ?_)) (fun _ _ => trivial)
   have hk2 := hk.2.1
   exact (World.putObj_heap_other (by omega)).trans (Below.heap_setCell _ _ _ _ (show k ≠ z + 2 by omega))
  ·exact (World.putObj_heap_other (by omega)).trans ((keep (z + 3) (by omega) (by omega)).trans (P3.out.trans hc3))
  ·exact (World.putObj_heap_other (by omega)).trans ((keep (z + 4) (by omega) (by omega)).trans P4.out)
  ·exact ((HP.out.trans (HBO.out.mono (by omega))).setCell (p := ⟨z + 2, 0, none⟩) (by simp) _).trans (belowK_b (w := w) (by omega) _ (z + 5) _ _ (by omega) q5 rfl rfl)
 ·intro W b out hD
  subst hrec
  refine RF.yield_round hD.l rfl rfl trivial ?_
  have HD := Aside0.mk hD
  have hs := hD.size
  clear hD D0
  dsimp only [RF.recOf]
  gi_wp2
  refine ⟨blk_alloc HD.out.l _, ?_⟩
  generalize hbz : ({ state := LoopState.busy, pending := none, fn := fn, tmps := _, params := _, assign := _, body := _, defers := _ } : Loop) = bz
  have p0 := (World.putObj_heap_other (r := z + 5) (o := .loop bz) (show z ≠ z + 5 by omega)).trans (blk_alloc HD.out.c0 (.cells #[.int .i64 0, .slice none 0 0] 52))
  have p1 := (World.putObj_heap_other (r := z + 5) (o := .loop bz) (show z + 1 ≠ z + 5 by omega)).trans (blk_alloc HD.out.c1 (.cells #[.int .i64 0, .slice none 0 0] 52))
  have p4 := (World.putObj_heap_other (r := z + 5) (o := .loop bz) (show z + 4 ≠ z + 5 by omega)).trans (blk_alloc HD.out.d (.cells #[.int .i64 0, .slice none 0 0] 52))
  have p5 : ((W.alloc (.cells #[.int .i64 0, .slice none 0 0] 52)).putObj (z + 5) (.loop bz)).heap[z + 5]? = some (.loop bz) := World.putObj_heap_same (by simp; omega)
  have HP := Aside0.mk ((HD.out.below.alloc (by omega) (.cells #[.int .i64 0, .slice none 0 0] 52)).trans (belowK_b (w := w) (by omega) _ (z + 5) _ (.loop bz) (by omega) (blk_alloc HD.out.l _) rfl rfl))
  generalize (W.alloc (.cells #[.int .i64 0, .slice none 0 0] 52)).putObj (z + 5) (.loop bz) = W3 at p0 p1 p4 p5 HP ⊢
  have k0 : W3.cell? ⟨z, 0, none⟩ = some (.slice none 0 0) := (blk_cell p0 0).trans rfl
  have k1 : W3.cell? ⟨z + 1, 0, none⟩ = some (.int .i64 0) := (blk_cell p1 0).trans rfl
  have f0 := blk_frozen p0 0
  have f1 := blk_frozen p1 0
  have P0 := Aside0.mk p0
  have P1 := Aside0.mk p1
  have P4 := Aside0.mk p4
  have P5 := Aside0.mk p5
  clear p0 p1 p4 p5
  gi_wp2
  subst hbz
  have q5 := (Below.heap_setCell (W3.setCell ⟨z, 0, none⟩ (.slice none 0 0)) ⟨z + 1, 0, none⟩ (.int .i64 4) (z + 5) (by simp)).trans ((Below.heap_setCell W3 ⟨z, 0, none⟩ (.slice none 0 0) (z + 5) (by simp)).trans P5.out)
  have q4 := (Below.heap_setCell (W3.setCell ⟨z, 0, none⟩ (.slice none 0 0)) ⟨z + 1, 0, none⟩ (.int .i64 4) (z + 4) (by simp)).trans ((Below.heap_setCell W3 ⟨z, 0, none⟩ (.slice none 0 0) (z + 4) (by simp)).trans P4.out)
  have q0 := blk_far (p := ⟨z + 1, 0, none⟩) (blk_put P0.out 0 (.slice none 0 0) rfl) (show z ≠ z + 1 by omega) (.int .i64 4)
  have q1 := blk_put (blk_far (p := ⟨z, 0, none⟩) P1.out (show z + 1 ≠ z by omega) (.slice none 0 0)) 0 (.int .i64 4) rfl
  refine ⟨q5, rfl, ⟨(World.putObj_heap_other (by omega)).trans q0, (World.putObj_heap_other (by omega)).trans q1, (World.putObj_heap_other (by omega)).trans q4, World.putObj_heap_same (Array.getElem?_eq_some_iff.1 q5).1, ?_⟩⟩
  exact (((HP.out).setCell (p := ⟨z, 0, none⟩) (Nat.le_refl _) _).setCell (p := ⟨z + 1, 0, none⟩) (by simp) _).trans (belowK_b (w := w) (by omega) _ (z + 5) _ _ (by omega) q5 rfl rfl)
end
theorem codec_Decode.mono_l : ∀ (k : Nat) (b : List Int) (out : List CRec), LeO (codec_Decode.l0 k b out) (codec_Decode.l0 (k + 1) b out)
 | 0, _, _ => fun r h => by simp [codec_Decode.l0] at h
 | k + 1, b, out => by
  have ih := codec_Decode.mono_l k
  unfold codec_Decode.l0
  repeat' first
   | exact ih _ _
   | exact LeO.refl _
   | refine LeO.ite ?_ ?_
theorem codec_Decode.mono : ∀ (l0 : List Int) (k : Nat), LeO (codec_Decode.f k l0) (codec_Decode.f (k + 1) l0) := fun l0 k => codec_Decode.mono_l k l0 []


/-! ### bytes_Equal: function 40 -/
def bytes_Equal.f (l0 : List Int) (l1 : List Int) : Option (Bool) := some ((strOfNums l0).toList == (strOfNums l1).toList)
set_option maxHeartbeats 8000000 in
set_option maxRecDepth 100000 in
theorem bytes_Equal.calls (A0 : Option Addr) (c0 : Nat) (l0 : List Int) (A1 : Option Addr) (c1 : Nat) (l1 : List Int) (r : Bool) (w : World) (hr0 : Kd.C (Kd.int .u8) w A0 l0.length l0) (hc0 : l0.length ≤ c0) (hr1 : Kd.C (Kd.int .u8) w A1 l1.length l1) (hc1 : l1.length ≤ c1) (h : bytes_Equal.f l0 l1 = some r) :
  Calls Try.prog 40 #[.slice A0 l0.length c0, .slice A1 l1.length c1] w fun e w' => e = .returned (.bool r) ∧ Drawn0 w w' := by
 have HR0 := Aside0.mk hr0
 have HC0 := Aside0.mk hc0
 clear hr0 hc0
 have HR1 := Aside0.mk hr1
 have HC1 := Aside0.mk hc1
 clear hr1 hc1
 have H : (some ((strOfNums l0).toList == (strOfNums l1).toList)) = some r := h
 clear h
 obtain rfl := Option.some.inj H
 have hcv3 := Kd.C_string (P := Try.prog) (A := A0) (c := c0) Try.underlying28 Try.underlying5 Try.underlying9 HR0.out
 have hcv4 := Kd.C_string (P := Try.prog) (A := A1) (c := c1) Try.underlying28 Try.underlying5 Try.underlying9 HR1.out
 go_enter Try.func40, Try.ntmps40
 go_wp2
 go_ret
 exact ⟨by first | rfl | (simp; done) | (simp [*]; done), by repeat (first | exact Drawn0.refl _ | apply Drawn0.step)⟩

/-! ### codec_Uint: function 65 -/
mutual
def codec_Uint.j0 : Nat → List Int → Bool → Option (Int × Int)
 | 0, _, _ => none
 | k + 1, x0, x14 => if x14 = true then (some (0, 4)) else (codec_Uint.l0 k 0 x0 (x0.length : Int) 0)
def codec_Uint.l0 : Nat → Int → List Int → Int → Int → Option (Int × Int)
 | 0, _, _, _, _ => none
 | k + 1, x4, x15, x16, x17 => if x17 < x16 then (if 0 ≤ x17 then (if x17 < (x15.length : Int) then (codec_Uint.l0 k (Go.bits .or .u64 (IntKind.u64.wrap (x4 * 256)) (IntKind.u64.wrap (rd x15 x17))) x15 x16 (wrap64 (x17 + 1))) else (none)) else (none)) else (some (x4, 0))
end
def codec_Uint.f (k : Nat) (l0 : List Int) : Option (Int × Int) := if (l0.length : Int) < 1 then (codec_Uint.j0 k l0 true) else (codec_Uint.j0 k l0 (decide ((l0.length : Int) > 8)))
theorem codec_Uint.mono_l : ∀ k, (∀ y0 y1, LeO (codec_Uint.j0 k y0 y1) (codec_Uint.j0 (k + 1) y0 y1)) ∧ (∀ y0 y1 y2 y3, LeO (codec_Uint.l0 k y0 y1 y2 y3) (codec_Uint.l0 (k + 1) y0 y1 y2 y3))
 | 0 => ⟨fun _ _ r h => by simp [codec_Uint.j0] at h, fun _ _ _ _ r h => by simp [codec_Uint.l0] at h⟩
 | k + 1 => by
  obtain ⟨ih0, ih1⟩ := codec_Uint.mono_l k
  refine ⟨?_, ?_⟩
  ·intro y0 y1
   unfold codec_Uint.j0
   repeat' first
   | (with_reducible exact ih0 _ _)
   | (with_reducible exact ih1 _ _ _ _)
   | (with_reducible exact LeO.refl _)
   | (with_reducible exact LeO.none _)
   | (with_reducible refine LeO.ite ?_ ?_)
   | (with_reducible refine LeO.bind ?_ (fun _ => ?_))
   | exact ih0 _ _
   | exact ih1 _ _ _ _
   | exact LeO.none _
   | refine LeO.ite ?_ ?_
   | refine LeO.bind ?_ (fun _ => ?_)
  ·intro y0 y1 y2 y3
   unfold codec_Uint.l0
   repeat' first
   | (with_reducible exact ih0 _ _)
   | (with_reducible exact ih1 _ _ _ _)
   | (with_reducible exact LeO.refl _)
   | (with_reducible exact LeO.none _)
   | (with_reducible refine LeO.ite ?_ ?_)
   | (with_reducible refine LeO.bind ?_ (fun _ => ?_))
   | exact ih0 _ _
   | exact ih1 _ _ _ _
   | exact LeO.none _
   | refine LeO.ite ?_ ?_
   | refine LeO.bind ?_ (fun _ => ?_)
theorem codec_Uint.mono : ∀ a0 k, LeO (codec_Uint.f k a0) (codec_Uint.f (k + 1) a0) := by
 intro a0 k
 obtain ⟨ih0, ih1⟩ := codec_Uint.mono_l k
 unfold codec_Uint.f
 repeat' first
   | (with_reducible exact ih0 _ _)
   | (with_reducible exact ih1 _ _ _ _)
   | (with_reducible exact LeO.refl _)
   | (with_reducible exact LeO.none _)
   | (with_reducible refine LeO.ite ?_ ?_)
   | (with_reducible refine LeO.bind ?_ (fun _ => ?_))
   | exact ih0 _ _
   | exact ih1 _ _ _ _
   | exact LeO.none _
   | refine LeO.ite ?_ ?_
   | refine LeO.bind ?_ (fun _ => ?_)
set_option maxHeartbeats 8000000 in
set_option maxRecDepth 100000 in
theorem codec_Uint.calls (k : Nat) (A0 : Option Addr) (c0 : Nat) (l0 : List Int) (r1 : Int) (r2 : Int) (w : World) (hr0 : Kd.C (Kd.int .u8) w A0 l0.length l0) (hc0 : l0.length ≤ c0) (h : codec_Uint.f k l0 = some (r1, r2)) :
  Calls Try.prog 65 #[.slice A0 l0.length c0] w fun e w' => e = .returned (.tuple #[.int .u64 r1, .int .i64 r2]) ∧ Drawn0 w w' := by
 have HR0 := Aside0.mk hr0
 have HC0 := Aside0.mk hc0
 clear hr0 hc0
 have H : (if (l0.length : Int) < 1 then (codec_Uint.j0 k l0 true) else (codec_Uint.j0 k l0 (decide ((l0.length : Int) > 8)))) = some (r1, r2) := h
 clear h
 have HC2 := Aside0.mk H
 clear H
 go_enter Try.func65, Try.ntmps65
 go_upto_region 1 with (fail)
 go_cut [14] (fun v14 wc => ∃ (kq : Nat) (x14_1 : Bool), v14 = .bool x14_1 ∧ Aside0 (codec_Uint.j0 kq l0 x14_1 = some (r1, r2)) ∧ Aside0 (kq ≤ k) ∧ Drawn0 w wc)
 case first =>
  have H := HC2.out
  clear HC2
  by_cases c3 : (l0.length : Int) < 1
  ·rw [if_pos c3] at H
   have c3b0 : decide ((l0.length : Int) < 1) = true := decide_eq_true c3
   have c3b1 : decide (l0.length < 1) = true := decide_eq_true (by omega)
   clear c3
   (first | rw [c3b0] | (simp only [i64_w, i32_w]; rw [c3b0]) | skip)
   have H' := Aside0.mk H
   clear H
   go_wp2
   go_meet
   case rel => exact ⟨_, (true), (by first | rfl | (simp; done) | (simp [*]; done)), H', ⟨by first | omega | exact Nat.le_refl _⟩, by repeat (first | exact Drawn0.refl _ | apply Drawn0.step)⟩
  ·rw [if_neg c3] at H
   have c3b0 : decide ((l0.length : Int) < 1) = false := decide_eq_false c3
   have c3b1 : decide (l0.length < 1) = false := decide_eq_false (by omega)
   clear c3
   (first | rw [c3b0] | (simp only [i64_w, i32_w]; rw [c3b0]) | skip)
   have H' := Aside0.mk H
   clear H
   go_wp2
   go_meet
   case rel => exact ⟨_, (decide ((l0.length : Int) > 8)), (by first | rfl | (simp; done) | (simp [*]; done)), H', ⟨by first | omega | exact Nat.le_refl _⟩, by repeat (first | exact Drawn0.refl _ | apply Drawn0.step)⟩
 case rest =>
  clear HC2
  obtain ⟨kq, x14_1, rfl, HA, HJ1, ⟨mc1, rfl⟩⟩ := hcut
  cases kq with
  | zero => exact absurd HA.out (by simp [codec_Uint.j0])
  | succ kj1 =>
   have H := HA.out
   clear HA
   simp only [codec_Uint.j0] at H
   by_cases c4 : x14_1 = true
   ·subst c4
    have H1 : (some (0, 4)) = some (r1, r2) := by rw [if_pos rfl] at H; exact H
    clear H
    have H := H1
    clear H1
    simp only [Option.some.injEq, Prod.mk.injEq] at H
    obtain ⟨rfl, rfl⟩ := H
    go_wp2
    go_ret2
    exact ⟨by first | rfl | (simp; done) | (simp [*]; done), by repeat (first | exact Drawn0.refl _ | apply Drawn0.step)⟩
   ·replace c4 := Bool.eq_false_iff.mpr c4
    subst c4
    have H1 : (codec_Uint.l0 kj1 0 l0 (l0.length : Int) 0) = some (r1, r2) := by rw [if_neg (show ¬ (false = true) by decide)] at H; exact H
    clear H
    have H := H1
    clear H1
    have H' := Aside0.mk H
    clear H
    go_wp2
    go_loopg [4, 17] kj1 (fun kq v4 v17 w' => ∃ (x4_2 : Int) (x17_2 : Int), v4 = .int .u64 x4_2 ∧ v17 = .int .i64 x17_2 ∧ Aside0 (codec_Uint.l0 kq x4_2 l0 (l0.length : Int) x17_2 = some (r1, r2)) ∧ Aside0 (kq ≤ kj1) ∧ Drawn0 w w')
    case atStart => exact ⟨(0), (0), (by first | rfl | (simp; done) | (simp [*]; done)), (by first | rfl | (simp; done) | (simp [*]; done)), H', ⟨Nat.le_refl _⟩, by repeat (first | exact Drawn0.refl _ | apply Drawn0.step)⟩
    case round =>
     clear H'
     (try clear c4)
     obtain ⟨x4_2, x17_2, rfl, rfl, HA, HK2, ⟨m2, rfl⟩⟩ := hrel
     cases gk with
     | zero => exact absurd HA.out (by simp [codec_Uint.l0])
     | succ k2 =>
      have H := HA.out
      clear HA
      simp only [codec_Uint.l0] at H
      by_cases c5 : x17_2 < (l0.length : Int)
      ·rw [if_pos c5] at H
       have c5b0 : decide (x17_2 < (l0.length : Int)) = true := decide_eq_true c5
       clear c5
       by_cases c6 : 0 ≤ x17_2
       ·rw [if_pos c6] at H
        have c6b0 : decide (0 ≤ x17_2) = true := decide_eq_true c6
        clear c6
        by_cases c7 : x17_2 < (l0.length : Int)
        ·rw [if_pos c7] at H
         have c7b0 : decide (x17_2 < (l0.length : Int)) = true := decide_eq_true c7
         clear c7
         have H' := Aside0.mk H
         clear H
         have p227 : 0 ≤ (x17_2 : Int) := of_decide_eq_true (by first | (with_reducible assumption) | assumption)
         have q227 : x17_2 < (l0.length : Int) := of_decide_eq_true (by first | (with_reducible assumption) | assumption)
         obtain ⟨ad227, e227, hx227_0⟩ := Kd.at_int HR0.out x17_2 p227 q227
         cases e227
         replace p227 := eq_true p227
         replace q227 := eq_true q227
         go_wp2
         go_roundg k2
         case measure => have := HJ1.out; have := HK2.out; omega
         case rel => exact ⟨(Go.bits .or .u64 (IntKind.u64.wrap (x4_2 * 256)) (IntKind.u64.wrap (rd l0 x17_2))), (wrap64 (x17_2 + 1)), (by first | rfl | (simp; done) | (simp [*]; done)), (by first | rfl | (simp; done) | (simp [*]; done)), H', ⟨by have := HJ1.out; have := HK2.out; omega⟩, by repeat (first | exact Drawn0.refl _ | apply Drawn0.step)⟩
        ·rw [if_neg c7] at H
         exact absurd H (by simp)
       ·rw [if_neg c6] at H
        exact absurd H (by simp)
      ·rw [if_neg c5] at H
       have c5b0 : decide (x17_2 < (l0.length : Int)) = false := decide_eq_false c5
       clear c5
       simp only [Option.some.injEq, Prod.mk.injEq] at H
       obtain ⟨rfl, rfl⟩ := H
       go_wp2
       go_ret2
       exact ⟨by first | rfl | (simp; done) | (simp [*]; done), by repeat (first | exact Drawn0.refl _ | apply Drawn0.step)⟩

/-! ### lsa_numbers: function 61 -/
def lsa_numbers.l0 : Nat → List Int → List Int → List Int → Int → Int → Option (List Int × Bool)
 | 0, _, _, _, _, _ => none
 | k + 1, x0, x6, x11, x12, x13 => if x13 < x12 then (if 0 ≤ x13 then (if x13 < (x11.length : Int) then (if (x0.length : Int) < (rd x11 x13) then (some (([] : List Int), false)) else (if 0 ≤ (rd x11 x13) then (if (rd x11 x13) ≤ (x0.length : Int) then ((codec_Uint.f k (x0.take ((rd x11 x13) : Int).toNat)).bind fun bt234 => (if x6.length < 17592186044416 then (lsa_numbers.l0 k (x0.drop ((rd x11 x13) : Int).toNat) (x6 ++ [wrap64 (bt234.1)]) x11 x12 (wrap64 (x13 + 1))) else (none))) else (none)) else (none))) else (none)) else (none)) else (some (x6, ((x0.length : Int) == 0)))
def lsa_numbers.f (k : Nat) (l0 : List Int) (l1 : List Int) : Option (List Int × Bool) := lsa_numbers.l0 k l0 ([] : List Int) l1 (l1.length : Int) 0
theorem lsa_numbers.mono_l : ∀ k, (∀ y0 y1 y2 y3 y4, LeO (lsa_numbers.l0 k y0 y1 y2 y3 y4) (lsa_numbers.l0 (k + 1) y0 y1 y2 y3 y4))
 | 0 => fun _ _ _ _ _ r h => by simp [lsa_numbers.l0] at h
 | k + 1 => by
  have ih0 := lsa_numbers.mono_l k
  ·intro y0 y1 y2 y3 y4
   unfold lsa_numbers.l0
   repeat' first
   | (with_reducible exact ih0 _ _ _ _ _)
   | (with_reducible exact codec_Uint.mono _ _)
   | (with_reducible exact LeO.refl _)
   | (with_reducible exact LeO.none _)
   | (with_reducible refine LeO.ite ?_ ?_)
   | (with_reducible refine LeO.bind ?_ (fun _ => ?_))
   | exact ih0 _ _ _ _ _
   | exact codec_Uint.mono _ _
   | exact LeO.none _
   | refine LeO.ite ?_ ?_
   | refine LeO.bind ?_ (fun _ => ?_)
theorem lsa_numbers.mono : ∀ a0 a1 k, LeO (lsa_numbers.f k a0 a1) (lsa_numbers.f (k + 1) a0 a1) := by
 intro a0 a1 k
 have ih0 := lsa_numbers.mono_l k
 unfold lsa_numbers.f
 repeat' first
   | (with_reducible exact ih0 _ _ _ _ _)
   | (with_reducible exact codec_Uint.mono _ _)
   | (with_reducible exact LeO.refl _)
   | (with_reducible exact LeO.none _)
   | (with_reducible refine LeO.ite ?_ ?_)
   | (with_reducible refine LeO.bind ?_ (fun _ => ?_))
   | exact ih0 _ _ _ _ _
   | exact codec_Uint.mono _ _
   | exact LeO.none _
   | refine LeO.ite ?_ ?_
   | refine LeO.bind ?_ (fun _ => ?_)
set_option maxHeartbeats 8000000 in
set_option maxRecDepth 100000 in
theorem lsa_numbers.calls (k : Nat) (P0_ : Nat → Prop) (A0 : Option Addr) (c0 : Nat) (l0 : List Int) (A1 : Option Addr) (c1 : Nat) (l1 : List Int) (r1 : List Int) (r2 : Bool) (w : World) (hs0 : Kd.V (Kd.int .u8) 5 w w.heap.size (fun k_ => P0_ k_) (.slice A0 l0.length c0) l0) (hr1 : Kd.C (Kd.int .i64) w A1 l1.length l1) (hc1 : l1.length ≤ c1) (h : lsa_numbers.f k l0 l1 = some (r1, r2)) :
  Calls Try.prog 61 #[.slice A0 l0.length c0, .slice A1 l1.length c1] w fun e w' => ∃ v0_ : Value, e = .returned (.tuple #[v0_, .bool r2]) ∧ Kd.R (Kd.int .i64) 3 w' w.heap.size (fun k_ => (w.heap.size ≤ k_)) v0_ r1 ∧ Below w.heap.size w w' := by
 have HO0 := Aside0.mk (show Kd.V (Kd.int .u8) 5 w w.heap.size (fun k_ => (P0_ k_ ∨ w.heap.size ≤ k_)) (.slice A0 l0.length c0) l0 from Kd.V_mono hs0 (fun k_ hk => .inl hk))
 have HR1 := Aside0.mk hr1
 have HC1 := Aside0.mk hc1
 clear hr1 hc1
 have HB := Aside0.mk (Below.refl w.heap.size w)
 have H : (lsa_numbers.l0 k l0 ([] : List Int) l1 (l1.length : Int) 0) = some (r1, r2) := h
 clear h
 have H' := Aside0.mk H
 clear H
 go_enter Try.func61, Try.ntmps61
 go_wp2
 go_loopg [0, 6, 13] k (fun kq v0 v6 v13 w' => ∃ (x0_1 : List Int) (x6_1 : List Int) (x13_1 : Int), v13 = .int .i64 x13_1 ∧ Aside0 (lsa_numbers.l0 kq x0_1 x6_1 l1 (l1.length : Int) x13_1 = some (r1, r2)) ∧ Aside0 (kq ≤ k) ∧ Aside0 (Kd.V (Kd.int .u8) 5 w' w.heap.size (fun k_ => (P0_ k_ ∨ w.heap.size ≤ k_) ∧ some k_ ≠ (v6 : Value).ownBlock) v0 x0_1) ∧ Aside0 (Kd.R (Kd.int .i64) 3 w' w.heap.size (fun k_ => (w.heap.size ≤ k_)) v6 x6_1) ∧ Aside0 (Below w.heap.size w w'))
 case atStart => exact ⟨(l0), (([] : List Int)), (0), (by first | rfl | (simp; done) | (simp [*]; done)), H', ⟨Nat.le_refl _⟩, ⟨by (with_reducible repeat (first | apply Kd.V_alloc | apply Kd.V_drewN | apply Kd.V_drew)); exact Kd.V_mono HO0.out (fun _ hk => ⟨hk, (by simp [Value.ownBlock])⟩)⟩, ⟨by first | exact Kd.R_nil _ _ _ _ _ | exact Kd.N_nil _ _ _ _ _ | exact Kd.V_nil _ _ _ _ _ | exact Kd.Q_nil _ _ _ _ _ | exact Kd.S_nil _ _ _ _ _⟩, ⟨kw_ HB⟩⟩
 case round =>
  clear H'
  (try clear c1)
  obtain ⟨x0_1, x6_1, x13_1, rfl, HA, HK1, HO_0, HO_6, HB⟩ := hrel
  cases gk with
  | zero => exact absurd HA.out (by simp [lsa_numbers.l0])
  | succ k1 =>
   have H := HA.out
   clear HA
   simp only [lsa_numbers.l0] at H
   by_cases c3 : x13_1 < (l1.length : Int)
   ·rw [if_pos c3] at H
    have c3b0 : decide (x13_1 < (l1.length : Int)) = true := decide_eq_true c3
    clear c3
    by_cases c4 : 0 ≤ x13_1
    ·rw [if_pos c4] at H
     have c4b0 : decide (0 ≤ x13_1) = true := decide_eq_true c4
     clear c4
     by_cases c5 : x13_1 < (l1.length : Int)
     ·rw [if_pos c5] at H
      have c5b0 : decide (x13_1 < (l1.length : Int)) = true := decide_eq_true c5
      clear c5
      by_cases c6 : (x0_1.length : Int) < (rd l1 x13_1)
      ·rw [if_pos c6] at H
       have c6b0 : decide ((x0_1.length : Int) < (rd l1 x13_1)) = true := decide_eq_true c6
       clear c6
       simp only [Option.some.injEq, Prod.mk.injEq] at H
       obtain ⟨rfl, rfl⟩ := H
       have p228 : 0 ≤ (x13_1 : Int) := of_decide_eq_true (by first | (with_reducible assumption) | assumption)
       have q228 : x13_1 < (l1.length : Int) := of_decide_eq_true (by first | (with_reducible assumption) | assumption)
       obtain ⟨ad228, e228, hx228_0⟩ := Kd.at_int HR1.out x13_1 p228 q228
       cases e228
       replace hx228_0 := (HB.out.cell (World.block_lt_of_cell? w _ hx228_0)).trans hx228_0
       replace p228 := eq_true p228
       replace q228 := eq_true q228
       obtain ⟨Ao7, co7, eo7⟩ := Kd.V_slice HO_0.out
       subst eo7
       go_wp2
       go_ret2
       exact ⟨_, by first | rfl | (simp [errW_none, errW_some] <;> rfl) | (simp [*, errW_none, errW_some] <;> rfl), by first | exact Kd.R_nil _ _ _ _ _ | exact Kd.N_nil _ _ _ _ _ | exact Kd.V_nil _ _ _ _ _ | exact Kd.Q_nil _ _ _ _ _ | exact Kd.S_nil _ _ _ _ _, kw_ HB⟩
      ·rw [if_neg c6] at H
       have c6b0 : decide ((x0_1.length : Int) < (rd l1 x13_1)) = false := decide_eq_false c6
       clear c6
       by_cases c8 : 0 ≤ (rd l1 x13_1)
       ·rw [if_pos c8] at H
        have c8b0 := eq_true c8
        have c8b1 : decide (0 ≤ (rd l1 x13_1)) = true := decide_eq_true c8
        clear c8
        by_cases c9 : (rd l1 x13_1) ≤ (x0_1.length : Int)
        ·rw [if_pos c9] at H
         have c9b0 := eq_true c9
         have c9b1 : decide ((rd l1 x13_1) ≤ (x0_1.length : Int)) = true := decide_eq_true c9
         clear c9
         obtain ⟨y229, hy229⟩ : ∃ y_ : List Int, y_ = (x0_1.take ((rd l1 x13_1) : Int).toNat) := ⟨_, rfl⟩
         replace H : ((codec_Uint.f k1 y229).bind fun bt234 => (if x6_1.length < 17592186044416 then (lsa_numbers.l0 k1 (x0_1.drop ((rd l1 x13_1) : Int).toNat) (x6_1 ++ [wrap64 (bt234.1)]) l1 (l1.length : Int) (wrap64 (x13_1 + 1))) else (none))) = some (r1, r2) := by first | (rw [hy229]; with_reducible exact H) | (have H2_ := (Option.bind_some _ _).symm.trans H; rw [hy229]; with_reducible exact H2_) | (have H2_ := (Option.bind_some _ _).symm.trans H; with_reducible exact H2_) | with_reducible exact H | (rw [hy229]; exact H) | exact H
         have Ny229 := Aside0.mk hy229
         clear hy229
         replace H := Option.bind_eq_some_iff.mp H
         obtain ⟨⟨t234, t235⟩, A100, H⟩ := H
         replace H : (if x6_1.length < 17592186044416 then (lsa_numbers.l0 k1 (x0_1.drop ((rd l1 x13_1) : Int).toNat) (x6_1 ++ [wrap64 (t234)]) l1 (l1.length : Int) (wrap64 (x13_1 + 1))) else (none)) = some (r1, r2) := H
         have A10 := Aside0.mk A100
         clear A100
         by_cases c11 : x6_1.length < 17592186044416
         ·rw [if_pos c11] at H
          have LMc11 := Aside0.mk c11
          clear c11
          obtain ⟨y236, hy236⟩ : ∃ y_ : List Int, y_ = (x6_1 ++ [wrap64 (t234)]) := ⟨_, rfl⟩
          replace H : (lsa_numbers.l0 k1 (x0_1.drop ((rd l1 x13_1) : Int).toNat) y236 l1 (l1.length : Int) (wrap64 (x13_1 + 1))) = some (r1, r2) := by first | (rw [hy236]; with_reducible exact H) | (have H2_ := (Option.bind_some _ _).symm.trans H; rw [hy236]; with_reducible exact H2_) | (have H2_ := (Option.bind_some _ _).symm.trans H; with_reducible exact H2_) | with_reducible exact H | (rw [hy236]; exact H) | exact H
          have Ny236 := Aside0.mk hy236
          clear hy236
          have c12b0 := eq_true (of_decide_eq_true (by first | (with_reducible assumption) | assumption) : 0 ≤ (rd l1 x13_1))
          have c13b0 := eq_true (of_decide_eq_true (by first | (with_reducible assumption) | assumption) : (rd l1 x13_1) ≤ (x0_1.length : Int))
          obtain ⟨y239, hy239⟩ : ∃ y_ : List Int, y_ = (x0_1.drop ((rd l1 x13_1) : Int).toNat) := ⟨_, rfl⟩
          replace H : (lsa_numbers.l0 k1 y239 y236 l1 (l1.length : Int) (wrap64 (x13_1 + 1))) = some (r1, r2) := by first | (rw [hy239]; with_reducible exact H) | (have H2_ := (Option.bind_some _ _).symm.trans H; rw [hy239]; with_reducible exact H2_) | (have H2_ := (Option.bind_some _ _).symm.trans H; with_reducible exact H2_) | with_reducible exact H | (rw [hy239]; exact H) | exact H
          have Ny239 := Aside0.mk hy239
          clear hy239
          have H' := Aside0.mk H
          clear H
          have p228 : 0 ≤ (x13_1 : Int) := of_decide_eq_true (by first | (with_reducible assumption) | assumption)
          have q228 : x13_1 < (l1.length : Int) := of_decide_eq_true (by first | (with_reducible assumption) | assumption)
          obtain ⟨ad228, e228, hx228_0⟩ := Kd.at_int HR1.out x13_1 p228 q228
          cases e228
          replace hx228_0 := (HB.out.cell (World.block_lt_of_cell? w _ hx228_0)).trans hx228_0
          replace p228 := eq_true p228
          replace q228 := eq_true q228
          obtain ⟨Ao14, co14, eo14⟩ := Kd.V_slice HO_0.out
          subst eo14
          have q15 : ((rd l1 x13_1) : Int) ≤ ((x0_1.length : Int) : Int) := of_decide_eq_true (by first | (with_reducible assumption) | assumption)
          obtain ⟨i015, hi015, _, hsz15, _⟩ := info_parts info5
          have hroom15 : x0_1.length ≤ co14 := (Kd.V_reads' HO_0.out).2.1
          have hC15 : Kd.F (Kd.int .u8) _ _ Ao14 x0_1.length x0_1 := (Kd.V_at (base := w.heap.size) HO_0.out).2.2
          have hcut15 := cut_to (P := Try.prog) 28 5 .i64 Try.underlying28 hi015 Ao14 x0_1.length co14 (rd l1 x13_1) (of_decide_eq_true (by first | (with_reducible assumption) | assumption)) q15 hroom15
          have hr15 := Kd.F_take (m := ((rd l1 x13_1) : Int).toNat) hC15 (by omega)
          have hy15 : y229.length = ((rd l1 x13_1) : Int).toNat := (by rw [Ny229.out, List.length_take]; omega)
          rw [← Ny229.out] at hr15
          rw [← hy15] at hcut15
          have HO233 := Aside0.mk (show Kd.V (Kd.int .u8) 5 _ w.heap.size _ (.slice Ao14 y229.length co14) y229 from Kd.V_mk (by omega) hr15)
          have HC233 := Aside0.mk (show y229.length ≤ co14 from by omega)
          clear hr15 hC15 hroom15 hi015 hsz15
          have KY15 := Aside0.mk hy15
          clear hy15
          replace q15 := eq_true q15
          go_wp2_with (first | ((with_reducible refine gate_callee (f := 65) rfl ?_); refine goesL_ (some 25) rfl rfl Try.func65 (by kernel_rfl) rfl #[.slice Ao14 y229.length co14] rfl (by (try simp only [List.map_toArray, List.map_cons, List.map_nil]); first | done | rfl | (simp only [List.length_drop, List.length_take]; rfl)) ?_; (with_reducible refine (codec_Uint.calls k1 _ _ y229 t234 t235 _ ?side1 ?side2 A10.out).mono ?_); (case side1 => repeat (first | exact (Kd.V_reads' HO233.out).2.2 | (with_reducible refine Kd.C_alloc ?_ _) | (with_reducible refine Kd.C_drewN ?_ _) | (with_reducible refine Kd.C_drew ?_))); (case side2 => exact (Kd.V_reads' HO233.out).2.1); rintro e w' ⟨rfl, ⟨nd, rfl⟩⟩; refine ⟨_, rfl, ?_⟩) | ((with_reducible refine gate_builtin (b := .append) (xs := #[.tmp 28, .tmp 31]) rfl ?_); at_builtin; refine Kd.R_append (Kd.int .i64) (w0 := w) w.heap.size rfl (.tmp 28) (.tmp 31) 95 3 (.int .i64 0) 8 rfl Try.underlying95 info3 rfl (by decide) (by omega) u6 x6_1 (wrap64 (t234)) [.int .i64 (wrap64 (t234))] (fun k_ => (w.heap.size ≤ k_)) (fun _ => False) rfl rfl ?aP (fun _ hk => hk.elim) ?aF ?aO ?aB ?aS ?aL ?_; (case aP => exact rfl); (case aB => exact (kw_ HB)); (case aF => exact (fun k_ hk => (Nat.le_trans (below_size (kw_ HB)) hk))); (case aO => exact (by (with_reducible repeat (first | apply Kd.R_alloc | apply Kd.R_drewN | apply Kd.R_drew)); exact HO_6.out)); (case aS => exact (below_size (kw_ HB))); (case aL => have := LMc11.out; omega); intro v237 w16 ho hb hg hat; rw [← Ny236.out] at ho; have HO238 := Aside0.mk (ho); replace HO_0 := Aside0.mk (Kd.V_afterv (ok := (fun k_ => (P0_ k_ ∨ w.heap.size ≤ k_))) (by (with_reducible repeat (first | apply Kd.V_alloc | apply Kd.V_drewN | apply Kd.V_drew)); exact HO_0.out) hg hat); replace HO233 := Aside0.mk (Kd.V_afterv (ok := (fun k_ => (P0_ k_ ∨ w.heap.size ≤ k_))) (by (with_reducible repeat (first | apply Kd.V_alloc | apply Kd.V_drewN | apply Kd.V_drew)); exact HO233.out) hg hat); replace HB := Aside0.mk (hb); clear HO_6; clear ho hb hg hat; have q17 : ((rd l1 x13_1) : Int) ≤ ((x0_1.length : Int) : Int) := of_decide_eq_true (by first | (with_reducible assumption) | assumption); obtain ⟨i017, hi017, _, hsz17, _⟩ := info_parts info5; have hroom17 : x0_1.length ≤ co14 := (Kd.V_reads' HO_0.out).2.1; have hC17 : Kd.F (Kd.int .u8) _ _ Ao14 x0_1.length x0_1 := (Kd.V_at (base := w.heap.size) HO_0.out).2.2; have q017 : (0 : Int) ≤ ((rd l1 x13_1) : Int) := of_decide_eq_true (by first | (with_reducible assumption) | assumption); have hcut17 := cut_from (P := Try.prog) 28 5 .i64 Try.underlying28 hi017 1 hsz17 Ao14 x0_1.length co14 (rd l1 x13_1) q017 q17; have hr17 := Kd.F_cut (m := ((rd l1 x13_1) : Int).toNat) (c := co14) hC17 (by omega) hroom17; obtain ⟨A17, hA17⟩ : ∃ A1, A1 = (if co14 = ((rd l1 x13_1) : Int).toNat then Ao14 else (Ao14 : Option Addr).map (·.add (((rd l1 x13_1) : Int).toNat * 1))) := ⟨_, rfl⟩; obtain ⟨c17, hc17⟩ : ∃ c1, c1 = co14 - ((rd l1 x13_1) : Int).toNat := ⟨_, rfl⟩; have hy17 : y239.length = x0_1.length - ((rd l1 x13_1) : Int).toNat := (by rw [Ny239.out, List.length_drop] <;> omega); rw [show (x0_1).drop ((rd l1 x13_1) : Int).toNat = y239 from Ny239.out.symm] at hr17; replace hr17 : Kd.F (Kd.int .u8) _ _ A17 y239.length y239 := (by rw [hA17]; exact hr17); rw [← hy17, ← hA17, ← hc17] at hcut17; have HO243 := Aside0.mk (show Kd.V (Kd.int .u8) 5 _ w.heap.size _ (.slice A17 y239.length c17) y239 from Kd.V_mk (by rw [hy17, hc17]; exact Nat.sub_le_sub_right hroom17 _) hr17); have HC243 := Aside0.mk (show y239.length ≤ c17 from by rw [hy17, hc17]; exact Nat.sub_le_sub_right hroom17 _); clear hr17 hC17 hroom17 hi017 hsz17 hc17; have KY17 := Aside0.mk hy17; have KA17 := Aside0.mk hA17; clear hy17 hA17; replace q17 := eq_true q17))
          go_roundg k1
          case measure => have := HK1.out; omega
          case rel => exact ⟨(y239), (y236), (wrap64 (x13_1 + 1)), (by first | rfl | (simp; done) | (simp [*]; done)), H', ⟨by have := HK1.out; omega⟩, ⟨by (with_reducible repeat (first | apply Kd.V_alloc | apply Kd.V_drewN | apply Kd.V_drew)); exact HO243.out⟩, ⟨by (with_reducible repeat (first | apply Kd.R_alloc | apply Kd.R_drewN | apply Kd.R_drew)); exact HO238.out⟩, ⟨kw_ HB⟩⟩
         ·rw [if_neg c11] at H
          exact absurd H (by simp)
        ·rw [if_neg c9] at H
         exact absurd H (by simp)
       ·rw [if_neg c8] at H
        exact absurd H (by simp)
     ·rw [if_neg c5] at H
      exact absurd H (by simp)
    ·rw [if_neg c4] at H
     exact absurd H (by simp)
   ·rw [if_neg c3] at H
    have c3b0 : decide (x13_1 < (l1.length : Int)) = false := decide_eq_false c3
    clear c3
    simp only [Option.some.injEq, Prod.mk.injEq] at H
    obtain ⟨rfl, rfl⟩ := H
    obtain ⟨Ao18, co18, eo18⟩ := Kd.V_slice HO_0.out
    subst eo18
    go_wp2
    go_ret2
    exact ⟨_, by first | rfl | (simp [errW_none, errW_some] <;> rfl) | (simp [*, errW_none, errW_some] <;> rfl), by (with_reducible repeat (first | apply Kd.R_alloc | apply Kd.R_drewN | apply Kd.R_drew)); exact HO_6.out, kw_ HB⟩

end Go.Proofs.Ytmknjjfdlkgidaa.HLsc
