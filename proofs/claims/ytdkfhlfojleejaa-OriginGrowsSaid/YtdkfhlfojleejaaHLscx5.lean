-- LAID by wip/hand.py, a program of this repository, over the kit's print: contracts of our own are put in. Lean checks it.
import Derived.Test.YtdkfhlfojleejaaHLscx0
namespace Go.Proofs.Ytdkfhlfojleejaa.HLsc
open Go.RowKit Go.Proofs.YtdkfhlfojleejaaW.PrintWords Go.Proofs.YtdkfhlfojleejaaW.PrintLast Go.Proofs.YtdkfhlfojleejaaW.PrintMore
attribute [local go_sem] gtr_str leq_str max2_int min2_int max_two min_two max_three min_three max_four min_four   -- for this text's walks alone
set_option linter.unusedVariables false
set_option linter.unusedSimpArgs false

/-! ### lsa_sign: function 39 -/
def lsa_sign.f (a0 : Int) : Option (Int) := some (mx (-1) (mn 1 a0))
set_option maxHeartbeats 8000000 in
set_option maxRecDepth 100000 in
theorem lsa_sign.calls (a0 : Int) (r : Int) (w : World) (h : lsa_sign.f a0 = some r) :
  Calls Try.prog 39 #[.int .i64 a0] w fun e w' => e = .returned (.int .i64 r) ∧ Below w.heap.size w w' := by
 have HB := Aside0.mk (Below.refl w.heap.size w)
 have H : (some (mx (-1) (mn 1 a0))) = some r := h
 clear h
 obtain ⟨ji2, hji2⟩ : ∃ j_ : Int, (mn 1 a0) = j_ := ⟨_, rfl⟩
 replace H : (some (mx (-1) (ji2))) = some r := by first | (rw [hji2] at H; exact H) | (simp only [hji2] at H ⊢; exact H)
 (try (have hji2h : ji2 ≤ 1 := by (rw [← hji2]; unfold mn; (repeat' split) <;> omega)))
 (try (have hji2g : ji2 ≤ 64 := by omega))
 have hji2_ : (if a0 < 1 then a0 else 1) = ji2 := hji2
 obtain ⟨ji3, hji3⟩ : ∃ j_ : Int, (mx (-1) (ji2)) = j_ := ⟨_, rfl⟩
 replace H : (some ji3) = some r := by first | (rw [hji3] at H; exact H) | (simp only [hji3] at H ⊢; exact H)
 have hji3_ : (if (-1) < (ji2) then (ji2) else (-1)) = ji3 := hji3
 obtain rfl := Option.some.inj H
 go_enter Try.func39, Try.ntmps39
 go_wp2
 go_ret
 exact ⟨by first | rfl | (simp [errW_none, errW_some] <;> rfl) | (simp only [← hji2, ← hji3]; first | rfl | (simp [errW_none, errW_some] <;> rfl)) | (simp [*, errW_none, errW_some] <;> rfl), kw_ HB⟩

/-! ### lsa_flag: function 52 -/
def lsa_flag.f (a0 : Bool) : Option (Int) := if a0 = true then (some 1) else (some 0)
set_option maxHeartbeats 8000000 in
set_option maxRecDepth 100000 in
theorem lsa_flag.calls (a0 : Bool) (r : Int) (w : World) (h : lsa_flag.f a0 = some r) :
  Calls Try.prog 52 #[.bool a0] w fun e w' => e = .returned (.int .i64 r) ∧ Drawn0 w w' := by
 have H : (if a0 = true then (some 1) else (some 0)) = some r := h
 clear h
 by_cases c2 : a0 = true
 ·subst c2
  have H1 : (some 1) = some r := by rw [if_pos rfl] at H; exact H
  clear H
  have H := H1
  clear H1
  obtain rfl := Option.some.inj H
  go_enter Try.func52, Try.ntmps52
  go_wp2
  go_ret
  exact ⟨by first | rfl | (simp; done) | (simp [*]; done), by repeat (first | exact Drawn0.refl _ | apply Drawn0.step)⟩
 ·replace c2 := Bool.eq_false_iff.mpr c2
  subst c2
  have H1 : (some 0) = some r := by rw [if_neg (show ¬ (false = true) by decide)] at H; exact H
  clear H
  have H := H1
  clear H1
  obtain rfl := Option.some.inj H
  go_enter Try.func52, Try.ntmps52
  go_wp2
  go_ret
  exact ⟨by first | rfl | (simp; done) | (simp [*]; done), by repeat (first | exact Drawn0.refl _ | apply Drawn0.step)⟩

/-! ### lsa_purge: function 40 -/
def lsa_purge.f (a0_0 : Int) (a0_1 : Int) (a0_2 : Int) (a0_3 : Bool) (l0_4 : List (S72)) (l0_5 : List (S76)) : Option (Int) := (lsa_flag.f (a0_2 == 3600)).bind fun t135 => (some t135)
set_option maxHeartbeats 8000000 in
set_option maxRecDepth 100000 in
theorem lsa_purge.calls (a0_0 : Int) (a0_1 : Int) (a0_2 : Int) (a0_3 : Bool) (A0_4 : Option Addr) (c0_4 : Nat) (l0_4 : List (S72)) (A0_5 : Option Addr) (c0_5 : Nat) (l0_5 : List (S76)) (r : Int) (w : World) (hr0_4 : Kd.C k72 w A0_4 l0_4.length l0_4) (hc0_4 : l0_4.length ≤ c0_4) (hr0_5 : Kd.C k76 w A0_5 l0_5.length l0_5) (hc0_5 : l0_5.length ≤ c0_5) (h : lsa_purge.f a0_0 a0_1 a0_2 a0_3 l0_4 l0_5 = some r) :
  Calls Try.prog 40 #[.agg #[.int .i64 a0_0, .int .i64 a0_1, .int .i64 a0_2, .bool a0_3, .slice A0_4 l0_4.length c0_4, .slice A0_5 l0_5.length c0_5]] w fun e w' => e = .returned (.int .i64 r) ∧ Below w.heap.size w w' := by
 have hu32 := Try.underlying32
 have HR0_4 := Aside0.mk hr0_4
 have HC0_4 := Aside0.mk hc0_4
 clear hr0_4 hc0_4
 have HR0_5 := Aside0.mk hr0_5
 have HC0_5 := Aside0.mk hc0_5
 clear hr0_5 hc0_5
 have HB := Aside0.mk (Below.refl w.heap.size w)
 have H : ((lsa_flag.f (a0_2 == 3600)).bind fun t135 => (some t135)) = some r := h
 clear h
 replace H := Option.bind_eq_some_iff.mp H
 obtain ⟨t135, A20, H⟩ := H
 replace H : (some t135) = some r := H
 have A2 := Aside0.mk A20
 clear A20
 obtain rfl := Option.some.inj H
 go_enter Try.func40, Try.ntmps40
 go_wp2_with (first | ((with_reducible refine gate_dst (N := 1) rfl ?_); refine bx_ 1 #[.int .i64 a0_0, .int .i64 a0_1, .int .i64 a0_2, .bool a0_3, .slice A0_4 l0_4.length c0_4, .slice A0_5 l0_5.length c0_5] 32 rfl rfl ?hr ?_; (case hr => go_simp; try rfl); intro gb134 hg w3 hbox hb; have BK134 := Aside0.mk (hbox); have GW134 := gs_ HB hg; have GE134 := gs_ HB hg; replace HB := bs_ HB hb; clear hb hbox hg; obtain ⟨hcz4_0, hcz4_1, hcz4_2, hcz4_3, hcz4_4, hcz4_5, hfz4_0, hfz4_1, hfz4_2, hfz4_3, hfz4_4, hfz4_5⟩ := c6_ BK134) | ((with_reducible refine gate_callee (f := 52) rfl ?_); refine goesL_ (some 6) rfl rfl Try.func52 (by kernel_rfl) rfl #[.bool (a0_2 == 3600)] rfl (by (try simp only [List.map_toArray, List.map_cons, List.map_nil]); first | done | rfl | (simp only [List.length_drop, List.length_take]; rfl)) ?_; (with_reducible refine (lsa_flag.calls (a0_2 == 3600) t135 _ A2.out).mono ?_); rintro e w' ⟨rfl, ⟨nd, rfl⟩⟩; refine ⟨_, rfl, ?_⟩))
 go_ret
 exact ⟨by first | rfl | (simp [errW_none, errW_some] <;> rfl) | (simp [*, errW_none, errW_some] <;> rfl), by repeat (first | (with_reducible first | exact HB.out | apply bU | apply bS GE134.out) | exact HB.out)⟩

-- NOT PRINTED: function 53 (bytealg_Compare)

/-! ### bytes_Compare: function 41 -/
theorem bytes_Compare.load_ {P : Program} (w : World) : ∀ (n : Nat) (a : Addr) (xs : List Int) (acc : ByteArray), xs.length = n → (∀ j, j < n → w.cell? (a.add j) = some (.int .u8 (xs.getD j 0))) →
  (Extern.Bytes.loadBytes a n acc).run P w = .ok ⟨acc.data ++ (Lib.bytesOf xs).toArray⟩ w := by
 intro n
 induction n with
 | zero =>
  intro a xs acc hl _
  obtain rfl : xs = [] := List.eq_nil_of_length_eq_zero hl
  simp [Extern.Bytes.loadBytes, Lib.bytesOf]
 | succ n ih =>
  intro a xs acc hl hc
  match xs, hl with
  | x :: xs, hl =>
   have h0 := hc 0 (by omega)
   rw [show a.add 0 = a from by simp [Addr.add]] at h0
   simp only [List.getD_cons_zero] at h0
   unfold Extern.Bytes.loadBytes
   simp only [Sem.run_bind, run_load, h0, Result.andThen]
   rw [ih (a.add 1) xs (acc.push x.toNat.toUInt8) (by simpa using hl) (fun j hj => by
    have := hc (j + 1) (by omega)
    rw [List.getD_cons_succ] at this
    rw [Go.Deep.add_add, Nat.add_comm 1 j]
    exact this)]
   simp [Lib.bytesOf, ByteArray.push]
theorem bytes_Compare.bytes_ {P : Program} {w : World} {A : Option Addr} {l : List Int} {c : Nat} (h : Kd.C (Kd.int .u8) w A l.length l) : (Extern.Bytes.bytesOf (.slice A l.length c)).run P w = .ok ⟨(Lib.bytesOf l).toArray⟩ w := by
 cases A with
 | none =>
  have hl : l = [] := by
   by_cases hz : 0 < l.length
   ·obtain ⟨_, e, _⟩ := h.2.2 hz
    cases e
   ·exact List.length_eq_zero_iff.mp (by omega)
  subst hl
  rfl
 | some ad =>
  have hc : ∀ j, j < l.length → w.cell? (ad.add j) = some (.int .u8 (l.getD j 0)) := by
   intro j hj
   obtain ⟨ad', e, hx⟩ := h.2.2 (by omega)
   obtain rfl : ad = ad' := Option.some.inj e
   obtain ⟨cs, _, hR, hcell⟩ := hx j _ (List.getElem?_eq_getElem hj)
   obtain rfl : cs = [.int .u8 l[j]] := hR
   have := hcell 0 _ rfl
   rw [show j * (Kd.int .u8).sz + 0 = j from by simp [show (Kd.int .u8).sz = 1 from rfl]] at this
   rw [this]
   simp [List.getD_eq_getElem?_getD, List.getElem?_eq_getElem hj]
  show (Extern.Bytes.loadBytes ad l.length .empty).run P w = _
  rw [bytes_Compare.load_ w l.length ad l .empty rfl hc]
  simp
def bytes_Compare.f (l0 : List Int) (l1 : List Int) : Option (Int) := some (Lib.compareBytes (Lib.bytesOf l0) (Lib.bytesOf l1))
set_option maxRecDepth 100000 in
theorem bytes_Compare.calls (A0 : Option Addr) (c0 : Nat) (l0 : List Int) (A1 : Option Addr) (c1 : Nat) (l1 : List Int) (r : Int) (w : World) (hr0 : Kd.C (Kd.int .u8) w A0 l0.length l0) (hc0 : l0.length ≤ c0) (hr1 : Kd.C (Kd.int .u8) w A1 l1.length l1) (hc1 : l1.length ≤ c1) (h : bytes_Compare.f l0 l1 = some r) :
  Calls Try.prog 41 #[.slice A0 l0.length c0, .slice A1 l1.length c1] w fun e w' => e = .returned (.int .i64 r) ∧ Below w.heap.size w w' := by
 obtain rfl := Option.some.inj h
 have b0 : (Extern.Bytes.bytesOf (.slice A0 l0.length c0)).run Try.prog w = .ok ⟨(Lib.bytesOf l0).toArray⟩ w := bytes_Compare.bytes_ hr0
 have b1 : (Extern.Bytes.bytesOf (.slice A1 l1.length c1)).run Try.prog w = .ok ⟨(Lib.bytesOf l1).toArray⟩ w := bytes_Compare.bytes_ hr1
 have hrun : (Extern.BytealgCompare.compare #[.slice A0 l0.length c0, .slice A1 l1.length c1]).run Try.prog w = .ok (.int .i64 (Lib.compareBytes (Lib.bytesOf l0) (Lib.bytesOf l1))) w := by
  change Sem.run Try.prog (do pure (goInt (Extern.BytealgCompare.cmp (← Extern.Bytes.bytesOf (.slice A0 l0.length c0)) (← Extern.Bytes.bytesOf (.slice A1 l1.length c1))))) w = _
  simp only [Sem.run_bind, Sem.run_pure, Result.andThen, b0, b1]
  rw [Lib.cmp_eq]
  rfl
 have H := Lib.hid hrun
 clear hrun b0 b1
 go_enter Try.func41, Try.ntmps41
 go_wp2
 rw [run_callFunc_extern Try.func53 (by kernel_rfl) (by kernel_rfl) (by kernel_rfl) (e := Extern.BytealgCompare.compare) (by kernel_rfl), H.out]
 simp only [Result.andThen]
 rw [Oper.upon_value]
 go_wp2
 go_ret
 exact ⟨rfl, Below.refl _ _⟩


/-! ### slices_Clone_byte_byte: function 65 -/
def slices_Clone_byte_byte.f (l0 : List Int) : Option (List Int) := (some (([] : List Int) : List Int)).bind fun y136 => (if y136.length + l0.length < 140737488355328 then (some (y136 ++ l0)) else (none))
set_option maxHeartbeats 8000000 in
set_option maxRecDepth 100000 in
theorem slices_Clone_byte_byte.some_ (ad0_ : Addr) (c0 : Nat) (l0 : List Int) (r : List Int) (w : World) (hr0 : Kd.C (Kd.int .u8) w (some ad0_) l0.length l0) (hc0 : l0.length ≤ c0) (h : slices_Clone_byte_byte.f l0 = some r) :
  Calls Try.prog 65 #[.slice (some ad0_) l0.length c0] w fun e w' => ∃ v0_ : Value, e = .returned (v0_) ∧ Kd.R (Kd.int .u8) 5 w' w.heap.size (fun _ => True) v0_ r ∧ Below w.heap.size w w' := by
 have HR0 := Aside0.mk hr0
 have HC0 := Aside0.mk hc0
 clear hr0 hc0
 have HB := Aside0.mk (Below.refl w.heap.size w)
 have H : ((some (([] : List Int) : List Int)).bind fun y136 => (if y136.length + l0.length < 140737488355328 then (some (y136 ++ l0)) else (none))) = some r := h
 clear h
 obtain ⟨y136, hy136⟩ : ∃ y_ : List Int, y_ = (([] : List Int)) := ⟨_, rfl⟩
 replace H : (if y136.length + l0.length < 140737488355328 then (some (y136 ++ l0)) else (none)) = some r := by first | (rw [hy136]; with_reducible exact H) | (have H2_ := (Option.bind_some _ _).symm.trans H; rw [hy136]; with_reducible exact H2_) | (have H2_ := (Option.bind_some _ _).symm.trans H; with_reducible exact H2_) | with_reducible exact H | (rw [hy136]; exact H) | exact H
 have Ny136 := Aside0.mk hy136
 clear hy136
 by_cases c2 : y136.length + l0.length < 140737488355328
 ·rw [if_pos c2] at H
  have LMc2 := Aside0.mk c2
  clear c2
  obtain ⟨y139, hy139⟩ : ∃ y_ : List Int, y_ = (y136 ++ l0) := ⟨_, rfl⟩
  replace H : (some y139) = some r := by first | (rw [hy139]; with_reducible exact H) | (have H2_ := (Option.bind_some _ _).symm.trans H; rw [hy139]; with_reducible exact H2_) | (have H2_ := (Option.bind_some _ _).symm.trans H; with_reducible exact H2_) | with_reducible exact H | (rw [hy139]; exact H) | exact H
  have Ny139 := Aside0.mk hy139
  clear hy139
  obtain rfl := Option.some.inj H
  have hnil_ := fun w_ : World => Lib.run_eql_slice_nil (P := Try.prog) w_ 82 _ (some ad0_) l0.length c0 0 0 Try.underlying82
  go_enter Try.func65, Try.ntmps65
  go_wp2_with (first | ((with_reducible refine gate_dst (N := 5) rfl ?_); refine Kd.R_lit (Kd.int .u8) _ 5 ?hg (N := 5) ?hd (xs := ([] : List Int)) (inner := []) (ok := fun _ => True) (okp := fun _ => True) ?hr ?hp (fun _ hk => hk) trivial (Below.refl _ _) (Nat.le_refl _) (by simp) ?_; (case hd => rfl); (case hg => rfl); (case hr => first | (go_simp; done) | (go_simp; rfl)); (case hp => exact (Reps.none _ _)); intro v137 w3 ho4 hb hg_ hnew_; clear hg_ hnew_; (first | rw [← Ny136.out] at ho4 | (simp only [Int.reduceToNat] at ho4; rw [← Ny136.out] at ho4)); have HO138 := Aside0.mk (Kd.R_lower ho4 (below_size (kw_ HB))); replace HB := bs_ HB hb; clear hb ho4) | ((with_reducible refine gate_builtin (b := .append) (xs := #[.tmp 5, .tmp 6]) rfl ?_); at_builtin; refine Kd.R_append_rows (Kd.int .u8) (w0 := w) w.heap.size rfl (.tmp 5) (.tmp 6) 82 5 (.int .u8 0) 1 rfl Try.underlying82 info5 rfl (by decide) (by omega) v137 y136 l0 _ _ _ (fun _ => True) (fun _ => False) rfl rfl ?aO ?aR (fun _ _ h => h) (fun _ h => h.elim) ?aF ?aB ?aS ?aL ?_; (case aR => repeat (first | exact (Kd.C_below HR0.out HB.out) | (with_reducible refine Kd.C_alloc ?_ _) | (with_reducible refine Kd.C_drewN ?_ _) | (with_reducible refine Kd.C_drew ?_))); (case aB => exact (kw_ HB)); (case aF => exact (fun _ _ => trivial)); (case aO => exact (by (with_reducible repeat (first | apply Kd.R_alloc | apply Kd.R_drewN | apply Kd.R_drew)); exact HO138.out)); (case aS => exact (below_size (kw_ HB))); (case aL => have := LMc2.out; omega); intro v140 w5 ho hb hg hat; rw [← Ny139.out] at ho; have HO141 := Aside0.mk (ho); replace HB := Aside0.mk (hb); clear HO138; clear ho hb hg hat))
  go_ret
  exact ⟨_, by first | rfl | (simp [errW_none, errW_some] <;> rfl) | (simp [*, errW_none, errW_some] <;> rfl), by (with_reducible repeat (first | apply Kd.R_alloc | apply Kd.R_drewN | apply Kd.R_drew)); exact HO141.out, kw_ HB⟩
 ·rw [if_neg c2] at H
  exact absurd H (by simp)
set_option maxRecDepth 100000 in
theorem slices_Clone_byte_byte.calls (A0 : Option Addr) (c0 : Nat) (l0 : List Int) (r : List Int) (w : World) (hr0 : Kd.C (Kd.int .u8) w A0 l0.length l0) (hc0 : l0.length ≤ c0) (h : slices_Clone_byte_byte.f l0 = some r) :
  Calls Try.prog 65 #[.slice A0 l0.length c0] w fun e w' => ∃ v0_ : Value, e = .returned (v0_) ∧ Kd.R (Kd.int .u8) 5 w' w.heap.size (fun _ => True) v0_ r ∧ Below w.heap.size w w' := by
 cases A0 with
 | some ad0_ => exact slices_Clone_byte_byte.some_ ad0_ c0 l0 r w hr0 hc0 h
 | none =>
  obtain rfl : l0 = [] := by
   by_cases hz : 0 < l0.length
   ·obtain ⟨_, e, _⟩ := hr0.2.2 hz
    cases e
   ·exact List.length_eq_zero_iff.mp (by omega)
  obtain rfl : [] = r := by
   have h' : some ([] ++ [] : List Int) = some r := by rw [← h]; rfl
   exact Option.some.inj h'
  have hnil_ := fun w_ : World => Lib.run_eql_slice_nil (P := Try.prog) w_ 82 _ none 0 c0 0 0 Try.underlying82
  go_enter Try.func65, Try.ntmps65
  go_wp2
  go_ret
  exact ⟨_, rfl, Kd.R_nil _ _ _ _ _, Below.refl _ _⟩

/-! ### codec_AppendUint: function 64 -/
mutual
def codec_AppendUint.j0 : Nat → List Int → Int → Int → Bool → Option (List Int × Int)
 | 0, _, _, _, _ => none
 | k + 1, x0, x1, x2, x15 => if x15 = true then (some (([] : List Int), 1)) else (if x2 < 8 then (if 0 ≤ (wrap64 (8 * x2)) then (codec_AppendUint.j1 k x0 x1 x2 ((shr .u64 x1 (wrap64 (8 * x2))) != 0)) else (none)) else (codec_AppendUint.j1 k x0 x1 x2 false))
def codec_AppendUint.j1 : Nat → List Int → Int → Int → Bool → Option (List Int × Int)
 | 0, _, _, _, _ => none
 | k + 1, x0, x1, x2, x24 => if x24 = true then (some (([] : List Int), 2)) else ((slices_Clone_byte_byte.f x0).bind fun t142 => (codec_AppendUint.l0 k x1 t142 (wrap64 (8 * (wrap64 (x2 - 1))))))
def codec_AppendUint.l0 : Nat → Int → List Int → Int → Option (List Int × Int)
 | 0, _, _, _ => none
 | k + 1, x1, x8, x9 => if x9 ≥ 0 then (if 0 ≤ x9 then (if x8.length < 140737488355328 then (codec_AppendUint.l0 k x1 (x8 ++ [(shr .u64 x1 x9) % 256]) (wrap64 (x9 - 8))) else (none)) else (none)) else (some (x8, 0))
end
def codec_AppendUint.f (k : Nat) (l0 : List Int) (a1 : Int) (a2 : Int) : Option (List Int × Int) := if a2 < 1 then (codec_AppendUint.j0 k l0 a1 a2 true) else (codec_AppendUint.j0 k l0 a1 a2 (decide (a2 > 8)))
theorem codec_AppendUint.mono_l : ∀ k, (∀ y0 y1 y2 y3, LeO (codec_AppendUint.j0 k y0 y1 y2 y3) (codec_AppendUint.j0 (k + 1) y0 y1 y2 y3)) ∧ (∀ y0 y1 y2 y3, LeO (codec_AppendUint.j1 k y0 y1 y2 y3) (codec_AppendUint.j1 (k + 1) y0 y1 y2 y3)) ∧ (∀ y0 y1 y2, LeO (codec_AppendUint.l0 k y0 y1 y2) (codec_AppendUint.l0 (k + 1) y0 y1 y2))
 | 0 => ⟨fun _ _ _ _ r h => by simp [codec_AppendUint.j0] at h, fun _ _ _ _ r h => by simp [codec_AppendUint.j1] at h, fun _ _ _ r h => by simp [codec_AppendUint.l0] at h⟩
 | k + 1 => by
  obtain ⟨ih0, ih1, ih2⟩ := codec_AppendUint.mono_l k
  refine ⟨?_, ?_, ?_⟩
  ·intro y0 y1 y2 y3
   unfold codec_AppendUint.j0
   repeat' first
   | (with_reducible exact ih0 _ _ _ _)
   | (with_reducible exact ih1 _ _ _ _)
   | (with_reducible exact ih2 _ _ _)
   | (with_reducible exact LeO.refl _)
   | (with_reducible exact LeO.none _)
   | (with_reducible refine LeO.ite ?_ ?_)
   | (with_reducible refine LeO.bind ?_ (fun _ => ?_))
   | exact ih0 _ _ _ _
   | exact ih1 _ _ _ _
   | exact ih2 _ _ _
   | exact LeO.none _
   | refine LeO.ite ?_ ?_
   | refine LeO.bind ?_ (fun _ => ?_)
  ·intro y0 y1 y2 y3
   unfold codec_AppendUint.j1
   repeat' first
   | (with_reducible exact ih0 _ _ _ _)
   | (with_reducible exact ih1 _ _ _ _)
   | (with_reducible exact ih2 _ _ _)
   | (with_reducible exact LeO.refl _)
   | (with_reducible exact LeO.none _)
   | (with_reducible refine LeO.ite ?_ ?_)
   | (with_reducible refine LeO.bind ?_ (fun _ => ?_))
   | exact ih0 _ _ _ _
   | exact ih1 _ _ _ _
   | exact ih2 _ _ _
   | exact LeO.none _
   | refine LeO.ite ?_ ?_
   | refine LeO.bind ?_ (fun _ => ?_)
  ·intro y0 y1 y2
   unfold codec_AppendUint.l0
   repeat' first
   | (with_reducible exact ih0 _ _ _ _)
   | (with_reducible exact ih1 _ _ _ _)
   | (with_reducible exact ih2 _ _ _)
   | (with_reducible exact LeO.refl _)
   | (with_reducible exact LeO.none _)
   | (with_reducible refine LeO.ite ?_ ?_)
   | (with_reducible refine LeO.bind ?_ (fun _ => ?_))
   | exact ih0 _ _ _ _
   | exact ih1 _ _ _ _
   | exact ih2 _ _ _
   | exact LeO.none _
   | refine LeO.ite ?_ ?_
   | refine LeO.bind ?_ (fun _ => ?_)
theorem codec_AppendUint.mono : ∀ a0 a1 a2 k, LeO (codec_AppendUint.f k a0 a1 a2) (codec_AppendUint.f (k + 1) a0 a1 a2) := by
 intro a0 a1 a2 k
 obtain ⟨ih0, ih1, ih2⟩ := codec_AppendUint.mono_l k
 unfold codec_AppendUint.f
 repeat' first
   | (with_reducible exact ih0 _ _ _ _)
   | (with_reducible exact ih1 _ _ _ _)
   | (with_reducible exact ih2 _ _ _)
   | (with_reducible exact LeO.refl _)
   | (with_reducible exact LeO.none _)
   | (with_reducible refine LeO.ite ?_ ?_)
   | (with_reducible refine LeO.bind ?_ (fun _ => ?_))
   | exact ih0 _ _ _ _
   | exact ih1 _ _ _ _
   | exact ih2 _ _ _
   | exact LeO.none _
   | refine LeO.ite ?_ ?_
   | refine LeO.bind ?_ (fun _ => ?_)
set_option maxHeartbeats 8000000 in
set_option maxRecDepth 100000 in
theorem codec_AppendUint.calls (k : Nat) (A0 : Option Addr) (c0 : Nat) (l0 : List Int) (a1 : Int) (a2 : Int) (r1 : List Int) (r2 : Int) (w : World) (hr0 : Kd.C (Kd.int .u8) w A0 l0.length l0) (hc0 : l0.length ≤ c0) (h : codec_AppendUint.f k l0 a1 a2 = some (r1, r2)) :
  Calls Try.prog 64 #[.slice A0 l0.length c0, .int .u64 a1, .int .i64 a2] w fun e w' => ∃ v0_ : Value, e = .returned (.tuple #[v0_, .int .i64 r2]) ∧ Kd.R (Kd.int .u8) 5 w' w.heap.size (fun _ => True) v0_ r1 ∧ Below w.heap.size w w' := by
 have HR0 := Aside0.mk hr0
 have HC0 := Aside0.mk hc0
 clear hr0 hc0
 have HB := Aside0.mk (Below.refl w.heap.size w)
 have H : (if a2 < 1 then (codec_AppendUint.j0 k l0 a1 a2 true) else (codec_AppendUint.j0 k l0 a1 a2 (decide (a2 > 8)))) = some (r1, r2) := h
 clear h
 have HC4 := Aside0.mk H
 clear H
 go_enter Try.func64, Try.ntmps64
 go_upto_region 1 with (fail)
 go_cut [15] (fun v15 wc => ∃ (kq : Nat) (x15_3 : Bool), v15 = .bool x15_3 ∧ Aside0 (codec_AppendUint.j0 kq l0 a1 a2 x15_3 = some (r1, r2)) ∧ Aside0 (kq ≤ k) ∧ Aside0 (Below w.heap.size w wc))
 case first =>
  have H := HC4.out
  clear HC4
  by_cases c5 : a2 < 1
  ·rw [if_pos c5] at H
   have c5b0 : decide (a2 < 1) = true := decide_eq_true c5
   clear c5
   (first | rw [c5b0] | (simp only [i64_w, i32_w]; rw [c5b0]) | skip)
   have H' := Aside0.mk H
   clear H
   go_wp2
   go_meet
   case rel => exact ⟨_, (true), (by first | rfl | (simp; done) | (simp [*]; done)), H', ⟨by first | omega | exact Nat.le_refl _⟩, ⟨kw_ HB⟩⟩
  ·rw [if_neg c5] at H
   have c5b0 : decide (a2 < 1) = false := decide_eq_false c5
   clear c5
   (first | rw [c5b0] | (simp only [i64_w, i32_w]; rw [c5b0]) | skip)
   have H' := Aside0.mk H
   clear H
   go_wp2
   go_meet
   case rel => exact ⟨_, (decide (a2 > 8)), (by first | rfl | (simp; done) | (simp [*]; done)), H', ⟨by first | omega | exact Nat.le_refl _⟩, ⟨kw_ HB⟩⟩
 case rest =>
  clear HC4
  obtain ⟨kq, x15_3, rfl, HA, HJ3, HB⟩ := hcut
  cases kq with
  | zero => exact absurd HA.out (by simp [codec_AppendUint.j0])
  | succ kj3 =>
   have H := HA.out
   clear HA
   simp only [codec_AppendUint.j0] at H
   by_cases c6 : x15_3 = true
   ·subst c6
    have H1 : (some (([] : List Int), 1)) = some (r1, r2) := by rw [if_pos rfl] at H; exact H
    clear H
    have H := H1
    clear H1
    simp only [Option.some.injEq, Prod.mk.injEq] at H
    obtain ⟨rfl, rfl⟩ := H
    go_wp2
    go_ret2
    exact ⟨_, by first | rfl | (simp [errW_none, errW_some] <;> rfl) | (simp [*, errW_none, errW_some] <;> rfl), by first | exact Kd.R_nil _ _ _ _ _ | exact Kd.N_nil _ _ _ _ _ | exact Kd.V_nil _ _ _ _ _ | exact Kd.Q_nil _ _ _ _ _ | exact Kd.S_nil _ _ _ _ _, kw_ HB⟩
   ·replace c6 := Bool.eq_false_iff.mpr c6
    subst c6
    have H1 : (if a2 < 8 then (if 0 ≤ (wrap64 (8 * a2)) then (codec_AppendUint.j1 kj3 l0 a1 a2 ((shr .u64 a1 (wrap64 (8 * a2))) != 0)) else (none)) else (codec_AppendUint.j1 kj3 l0 a1 a2 false)) = some (r1, r2) := by rw [if_neg (show ¬ (false = true) by decide)] at H; exact H
    clear H
    have H := H1
    clear H1
    have HC7 := Aside0.mk H
    clear H
    go_upto_region 3 with (fail)
    go_cut [24] (fun v24 wc => ∃ (kq : Nat) (x24_6 : Bool), v24 = .bool x24_6 ∧ Aside0 (codec_AppendUint.j1 kq l0 a1 a2 x24_6 = some (r1, r2)) ∧ Aside0 (kq ≤ kj3) ∧ Aside0 (Below w.heap.size w wc))
    case first =>
     have H := HC7.out
     clear HC7
     by_cases c8 : a2 < 8
     ·rw [if_pos c8] at H
      have c8b0 : decide (a2 < 8) = true := decide_eq_true c8
      clear c8
      (first | rw [c8b0] | (simp only [i64_w, i32_w]; rw [c8b0]) | skip)
      obtain ⟨ji9, hji9⟩ : ∃ j_ : Int, (wrap64 (8 * a2)) = j_ := ⟨_, rfl⟩
      replace H : (if 0 ≤ (ji9) then (codec_AppendUint.j1 kj3 l0 a1 a2 ((shr .u64 a1 (ji9)) != 0)) else (none)) = some (r1, r2) := by first | (rw [hji9] at H; exact H) | (simp only [hji9] at H ⊢; exact H)
      have hji9w : (IntKind.i64.wrap (8 * a2)) = ji9 := (i64_w _).trans hji9
      by_cases c10 : 0 ≤ (ji9)
      ·rw [if_pos c10] at H
       have c10b0 := eq_true c10
       have c10b1 : decide (0 ≤ (ji9)) = true := decide_eq_true c10
       clear c10
       obtain ⟨ji11, hji11⟩ : ∃ j_ : Int, (shr .u64 a1 (ji9)) = j_ := ⟨_, rfl⟩
       replace H : (codec_AppendUint.j1 kj3 l0 a1 a2 ((ji11) != 0)) = some (r1, r2) := by first | (rw [hji11] at H; exact H) | (simp only [hji11] at H ⊢; exact H)
       have hji11_ : (a1 / 2 ^ min (ji9).toNat 64) = ji11 := hji11
       have hji11z : (ji9) ≤ 64 → (a1 / 2 ^ (ji9).toNat) = ji11 := shr_small hji11
       have H' := Aside0.mk H
       clear H
       go_wp2
       go_meet
       case rel => exact ⟨_, (((ji11) != 0)), (by first | rfl | (simp; done) | (simp only [← hji11] <;> (first | rfl | simp)) | (simp [*]; done)), H', ⟨by have := HJ3.out; first | omega | exact Nat.le_refl _⟩, ⟨kw_ HB⟩⟩
      ·rw [if_neg c10] at H
       exact absurd H (by simp)
     ·rw [if_neg c8] at H
      have c8b0 : decide (a2 < 8) = false := decide_eq_false c8
      clear c8
      (first | rw [c8b0] | (simp only [i64_w, i32_w]; rw [c8b0]) | skip)
      have H' := Aside0.mk H
      clear H
      go_wp2
      go_meet
      case rel => exact ⟨_, (false), (by first | rfl | (simp; done) | (simp [*]; done)), H', ⟨by have := HJ3.out; first | omega | exact Nat.le_refl _⟩, ⟨kw_ HB⟩⟩
    case rest =>
     clear HC7
     (try clear c6)
     obtain ⟨kq, x24_6, rfl, HA, HJ6, HB⟩ := hcut
     cases kq with
     | zero => exact absurd HA.out (by simp [codec_AppendUint.j1])
     | succ kj6 =>
      have H := HA.out
      clear HA
      simp only [codec_AppendUint.j1] at H
      by_cases c12 : x24_6 = true
      ·subst c12
       have H1 : (some (([] : List Int), 2)) = some (r1, r2) := by rw [if_pos rfl] at H; exact H
       clear H
       have H := H1
       clear H1
       simp only [Option.some.injEq, Prod.mk.injEq] at H
       obtain ⟨rfl, rfl⟩ := H
       go_wp2
       go_ret2
       exact ⟨_, by first | rfl | (simp [errW_none, errW_some] <;> rfl) | (simp [*, errW_none, errW_some] <;> rfl), by first | exact Kd.R_nil _ _ _ _ _ | exact Kd.N_nil _ _ _ _ _ | exact Kd.V_nil _ _ _ _ _ | exact Kd.Q_nil _ _ _ _ _ | exact Kd.S_nil _ _ _ _ _, kw_ HB⟩
      ·replace c12 := Bool.eq_false_iff.mpr c12
       subst c12
       have H1 : ((slices_Clone_byte_byte.f l0).bind fun t142 => (codec_AppendUint.l0 kj6 a1 t142 (wrap64 (8 * (wrap64 (a2 - 1)))))) = some (r1, r2) := by rw [if_neg (show ¬ (false = true) by decide)] at H; exact H
       clear H
       have H := H1
       clear H1
       replace H := Option.bind_eq_some_iff.mp H
       obtain ⟨t142, A130, H⟩ := H
       replace H : (codec_AppendUint.l0 kj6 a1 t142 (wrap64 (8 * (wrap64 (a2 - 1))))) = some (r1, r2) := H
       have A13 := Aside0.mk A130
       clear A130
       have H' := Aside0.mk H
       clear H
       go_wp2_with (first | ((with_reducible refine gate_callee (f := 65) rfl ?_); refine goesL_ (some 26) rfl rfl Try.func65 (by kernel_rfl) rfl #[.slice A0 l0.length c0] rfl (by (try simp only [List.map_toArray, List.map_cons, List.map_nil]); first | done | rfl | (simp only [List.length_drop, List.length_take]; rfl)) ?_; (with_reducible refine (slices_Clone_byte_byte.calls _ _ l0 t142 _ ?side1 ?side2 A13.out).mono ?_); (case side1 => exact cs_ HR0 HB); (case side2 => exact HC0.out); rintro e w14 ⟨v143, rfl, ho0, hb⟩; refine ⟨_, rfl, ?_⟩; have HO144 := Aside0.mk (Kd.R_lower ho0 (below_size (kw_ HB))); replace HB := bs_ HB hb; (try clear hb); (try clear hb2); (try clear hk); (try clear hi); (try clear ho0)))
       go_loopg [8, 9] kj6 (fun kq v8 v9 w' => ∃ (x8_3 : List Int) (x9_3 : Int), v9 = .int .i64 x9_3 ∧ Aside0 (codec_AppendUint.l0 kq a1 x8_3 x9_3 = some (r1, r2)) ∧ Aside0 (kq ≤ kj6) ∧ Aside0 (Kd.R (Kd.int .u8) 5 w' w.heap.size (fun _ => True) v8 x8_3) ∧ Aside0 (Below w.heap.size w w'))
       case atStart => exact ⟨(t142), (wrap64 (8 * (wrap64 (a2 - 1)))), (by first | rfl | (simp; done) | (simp [*]; done)), H', ⟨Nat.le_refl _⟩, ⟨by (with_reducible repeat (first | apply Kd.R_alloc | apply Kd.R_drewN | apply Kd.R_drew)); exact HO144.out⟩, ⟨kw_ HB⟩⟩
       case round =>
        clear H'
        (try clear c6); (try clear c12)
        obtain ⟨x8_3, x9_3, rfl, HA, HK3, HO_8, HB⟩ := hrel
        cases gk with
        | zero => exact absurd HA.out (by simp [codec_AppendUint.l0])
        | succ k3 =>
         have H := HA.out
         clear HA
         simp only [codec_AppendUint.l0] at H
         by_cases c15 : x9_3 ≥ 0
         ·rw [if_pos c15] at H
          have c15b0 : decide (0 ≤ x9_3) = true := decide_eq_true c15
          clear c15
          by_cases c16 : 0 ≤ x9_3
          ·rw [if_pos c16] at H
           have c16b0 := eq_true c16
           have c16b1 : decide (0 ≤ x9_3) = true := decide_eq_true c16
           clear c16
           obtain ⟨ji17, hji17⟩ : ∃ j_ : Int, (shr .u64 a1 x9_3) = j_ := ⟨_, rfl⟩
           replace H : (if x8_3.length < 140737488355328 then (codec_AppendUint.l0 k3 a1 (x8_3 ++ [(ji17) % 256]) (wrap64 (x9_3 - 8))) else (none)) = some (r1, r2) := by first | (rw [hji17] at H; exact H) | (simp only [hji17] at H ⊢; exact H)
           have hji17_ : (a1 / 2 ^ min x9_3.toNat 64) = ji17 := hji17
           have hji17z : x9_3 ≤ 64 → (a1 / 2 ^ x9_3.toNat) = ji17 := shr_small hji17
           by_cases c18 : x8_3.length < 140737488355328
           ·rw [if_pos c18] at H
            have LMc18 := Aside0.mk c18
            clear c18
            obtain ⟨y145, hy145⟩ : ∃ y_ : List Int, y_ = (x8_3 ++ [(ji17) % 256]) := ⟨_, rfl⟩
            replace H : (codec_AppendUint.l0 k3 a1 y145 (wrap64 (x9_3 - 8))) = some (r1, r2) := by first | (rw [hy145]; with_reducible exact H) | (have H2_ := (Option.bind_some _ _).symm.trans H; rw [hy145]; with_reducible exact H2_) | (have H2_ := (Option.bind_some _ _).symm.trans H; with_reducible exact H2_) | with_reducible exact H | (rw [hy145]; exact H) | exact H
            have Ny145 := Aside0.mk hy145
            clear hy145
            have H' := Aside0.mk H
            clear H
            go_wp2_with (first | ((with_reducible refine gate_builtin (b := .append) (xs := #[.tmp 34, .tmp 39]) rfl ?_); at_builtin; refine Kd.R_append (Kd.int .u8) (w0 := w) w.heap.size rfl (.tmp 34) (.tmp 39) 82 5 (.int .u8 0) 1 rfl Try.underlying82 info5 rfl (by decide) (by omega) u8 x8_3 ((ji17) % 256) [.int .u8 ((ji17) % 256)] (fun _ => True) (fun _ => False) rfl rfl ?aP (fun _ hk => hk.elim) ?aF ?aO ?aB ?aS ?aL ?_; (case aP => exact rfl); (case aB => exact (kw_ HB)); (case aF => exact (fun _ _ => trivial)); (case aO => exact (by (with_reducible repeat (first | apply Kd.R_alloc | apply Kd.R_drewN | apply Kd.R_drew)); exact HO_8.out)); (case aS => exact (below_size (kw_ HB))); (case aL => have := LMc18.out; omega); intro v146 w19 ho hb hg hat; rw [← Ny145.out] at ho; have HO147 := Aside0.mk (ho); replace HB := Aside0.mk (hb); clear HO_8; clear ho hb hg hat))
            go_roundg k3
            case measure => have := HJ3.out; have := HJ6.out; have := HK3.out; omega
            case rel => exact ⟨(y145), (wrap64 (x9_3 - 8)), (by first | rfl | (simp; done) | (simp [*]; done)), H', ⟨by have := HJ3.out; have := HJ6.out; have := HK3.out; omega⟩, ⟨by (with_reducible repeat (first | apply Kd.R_alloc | apply Kd.R_drewN | apply Kd.R_drew)); exact HO147.out⟩, ⟨kw_ HB⟩⟩
           ·rw [if_neg c18] at H
            exact absurd H (by simp)
          ·rw [if_neg c16] at H
           exact absurd H (by simp)
         ·rw [if_neg c15] at H
          have c15b0 : decide (0 ≤ x9_3) = false := decide_eq_false c15
          clear c15
          simp only [Option.some.injEq, Prod.mk.injEq] at H
          obtain ⟨rfl, rfl⟩ := H
          go_wp2
          go_ret2
          exact ⟨_, by first | rfl | (simp [errW_none, errW_some] <;> rfl) | (simp [*, errW_none, errW_some] <;> rfl), by (with_reducible repeat (first | apply Kd.R_alloc | apply Kd.R_drewN | apply Kd.R_drew)); exact HO_8.out, kw_ HB⟩

/-! ### lsa_value: function 57 -/
def lsa_value.l0 (k : Nat) : List S96 → List Int → Option (List Int)
 | [], b => some b
 | x :: xs, b => (codec_AppendUint.f k b (IntKind.u64.wrap (x.f0)) x.f1).bind fun p => lsa_value.l0 k xs p.1
def lsa_value.f (k : Nat) (l0 : List S96) : Option (List Int) := lsa_value.l0 k l0 []
theorem lsa_value.mono_l : ∀ (xs : List S96) (b : List Int) (k : Nat), LeO (lsa_value.l0 k xs b) (lsa_value.l0 (k + 1) xs b) := by
 intro xs
 induction xs with
 | nil => intro b k; exact LeO.refl _
 | cons x xs ih => intro b k; exact LeO.bind (codec_AppendUint.mono _ _ _ k) (fun p => ih p.1 k)
theorem lsa_value.mono : ∀ (l0 : List S96) (k : Nat), LeO (lsa_value.f k l0) (lsa_value.f (k + 1) l0) := fun l0 k => lsa_value.mono_l l0 [] k
set_option maxHeartbeats 1600000 in
set_option maxRecDepth 100000 in
theorem lsa_value.put_ (k : Nat) (x0 x1 : Int) (l r1 : List Int) (r2 : Int) (g : Nat) (v : Value) (B : Nat) (w : World) (hB : B ≤ g) (hg : w.heap[g]? = some (.cells #[v] 82 (0, 0))) (hR : Kd.R (Kd.int .u8) 5 w B (fun k_ => k_ ≠ g) v l)
  (h : codec_AppendUint.f k l (IntKind.u64.wrap x0) x1 = some (r1, r2)) :
  Calls Try.prog 63 #[.agg #[.int .i64 x0, .int .i64 x1], .pointer (some ⟨g, 0, none⟩)] w fun e w' => e = .returned (.tuple #[]) ∧ ∃ v', w'.heap[g]? = some (.cells #[v'] 82 (0, 0)) ∧ Kd.R (Kd.int .u8) 5 w' B (fun k_ => k_ ≠ g) v' r1 ∧ Below B w w' := by
 have hu96 := Try.underlying96
 obtain ⟨A, c, rfl, hc, hC⟩ := Kd.R_reads hR
 have HC := Aside0.mk hC
 have HR := Aside0.mk hR
 have HG := Aside0.mk hg
 have HH := Aside0.mk h
 have hlt : g < w.heap.size := blk_lt hg
 have hcg : w.cell? ⟨g, 0, none⟩ = some (.slice A l.length c) := (blk_cell hg 0).trans rfl
 have hfg : w.frozen? ⟨g, 0, none⟩ = false := blk_frozen hg 0
 clear hC hR hg h
 go_enter Try.func63, Try.ntmps63
 go_wp2_with fail
 refine (codec_AppendUint.calls k A c l (IntKind.u64.wrap x0) x1 r1 r2 _ (Kd.C_below HC.out (below_alloc (Below.refl _ _) _)) hc HH.out).mono ?_
 rintro e w1 ⟨v', rfl, ho, hb⟩
 have hg1 := blk_below (blk_alloc HG.out (.cells #[.int .i64 x0, .int .i64 x1] 96)) hb
 have ho1 := Kd.R_newB ho (blk_alloc HG.out (.cells #[.int .i64 x0, .int .i64 x1] 96))
 have hcg1 : w1.cell? ⟨g, 0, none⟩ = some (.slice A l.length c) := (blk_cell hg1 0).trans rfl
 have hfg1 : w1.frozen? ⟨g, 0, none⟩ = false := blk_frozen hg1 0
 obtain ⟨A1, c1, rfl⟩ := Kd.R_slice ho
 have HG1 := Aside0.mk hg1
 have HO1 := Aside0.mk ho1
 have HB1 := Aside0.mk hb
 clear hg1 ho1 ho hb
 go_wp2_with fail
 go_end0
 refine ⟨rfl, .slice A1 r1.length c1, blk_put HG1.out 0 _ rfl, ?_, ?_⟩
 ·refine Kd.R_far (Kd.R_lower (Kd.R_mono HO1.out (fun k_ hk => hk.2)) ?_) (fun k_ hk => hk) _
  simp; omega
 ·exact (((Below.refl B w).alloc (by omega) _).trans (HB1.out.mono (by simp; omega))).setCell hB _
set_option maxHeartbeats 1600000 in
set_option maxRecDepth 100000 in
theorem lsa_value.calls (k : Nat) (A0 : Option Addr) (c0 : Nat) (l0 : List (S96)) (r : List Int) (w : World) (hr0 : Kd.C k96 w A0 l0.length l0) (hc0 : l0.length ≤ c0) (h : lsa_value.f k l0 = some r) :
  Calls Try.prog 57 #[.slice A0 l0.length c0] w fun e w' => ∃ v0_ : Value, e = .returned (v0_) ∧ Kd.R (Kd.int .u8) 5 w' w.heap.size (fun _ => True) v0_ r ∧ Below w.heap.size w w' := by
 have hu96 := Try.underlying96
 have HR0 := Aside0.mk hr0
 have HC0 := Aside0.mk hc0
 have HH := Aside0.mk h
 have hmax : l0.length ≤ 9223372036854775807 := hr0.2.1
 clear hr0 hc0 h
 go_enter Try.func57, Try.ntmps57
 go_wp2_with fail
 go_loopw [10] (fun v10 wr => ∃ (x : Int) (acc : List Int) (v : Value), v10 = .int .i64 x ∧ Aside0 (0 ≤ x ∧ x ≤ l0.length) ∧ Aside0 (lsa_value.l0 k (l0.drop x.toNat) acc = some r) ∧ Aside0 (wr.heap[w.heap.size]? = some (.cells #[v] 82 (0, 0))) ∧ Aside0 (Kd.R (Kd.int .u8) 5 wr w.heap.size (fun k_ => k_ ≠ w.heap.size) v acc) ∧ Aside0 (Below w.heap.size w wr)) (fun v10 _ => ((l0.length : Int) - intOf v10).toNat)
 case atStart => exact ⟨0, [], .slice none 0 0, rfl, ⟨by omega, by omega⟩, ⟨HH.out⟩, ⟨blk_new _ _⟩, ⟨Kd.R_nil _ _ _ _ _⟩, ⟨below_alloc (Below.refl _ _) _⟩⟩
 case round =>
  obtain ⟨x, acc, v, rfl, hx, HA, HG, HR, HB⟩ := hrel
  have x0 := hx.out.1
  have x1 := hx.out.2
  by_cases c : x < (l0.length : Int)
  ·obtain ⟨ad, rfl, hx0, hx1⟩ := at_T96 HR0.out x x0 c
   replace hx0 := (HB.out.cell (World.block_lt_of_cell? w _ hx0)).trans hx0
   replace hx1 := (HB.out.cell (World.block_lt_of_cell? w _ hx1)).trans hx1
   have hd : l0.drop x.toNat = rd_T96 l0 x :: l0.drop (x + 1).toNat := by
    have hlt : x.toNat < l0.length := by omega
    rw [List.drop_eq_getElem_cons hlt]
    congr 1
    ·simp [rd_T96, List.getD_eq_getElem?_getD, List.getElem?_eq_getElem hlt]
    ·congr 1; omega
   have hA := HA.out
   rw [hd] at hA
   obtain ⟨⟨b1, b2⟩, hb1, hb2⟩ := Option.bind_eq_some_iff.mp hA
   have HB1 := Aside0.mk hb1
   have HB2 := Aside0.mk hb2
   clear hA hd hb1 hb2 HA
   go_wp2_with fail
   refine (lsa_value.put_ k (rd_T96 l0 x).f0 (rd_T96 l0 x).f1 acc b1 b2 w.heap.size v w.heap.size _ (Nat.le_refl _) (blk_alloc HG.out _) (Kd.R_alloc HR.out _) HB1.out).mono ?_
   rintro e w2 ⟨rfl, v', hg', hR', hB'⟩
   have HG' := Aside0.mk hg'
   have HR' := Aside0.mk hR'
   have HB' := Aside0.mk ((HB.out.alloc HB.out.size _).trans hB')
   clear hg' hR' hB' HG HR HB
   go_wp2_with fail
   go_roundw
   case rel => exact ⟨x + 1, b1, v', rfl, ⟨by omega, by omega⟩, ⟨HB2.out⟩, HG', HR', HB'⟩
   case measure => simp [intOf]; omega
  ·have hx2 : x.toNat = l0.length := by omega
   have hr : acc = r := by
    have hA := HA.out
    rw [hx2, List.drop_length] at hA
    exact Option.some.inj hA
   subst hr
   have hc3 : wr.cell? ⟨w.heap.size, 0, none⟩ = some v := (blk_cell HG.out 0).trans rfl
   go_wp2_with fail
   go_ret
   exact ⟨v, rfl, Kd.R_mono HR.out (fun _ _ => trivial), HB.out⟩


/-! ### codec_Encode: function 58 -/
mutual
def codec_Encode.l0 : Nat → List Int → List (S99) → Int → Int → Option (List Int × Int)
 | 0, _, _, _, _ => none
 | k + 1, x4, x7, x8, x9 => if x9 < x8 then (if 0 ≤ x9 then (if x9 < (x7.length : Int) then (if ((rd_T99 x7 x9).f0) < 1 then (codec_Encode.j1 k x4 x7 x8 x9 true ((rd_T99 x7 x9).f0) ((rd_T99 x7 x9).f1)) else (codec_Encode.j1 k x4 x7 x8 x9 (decide (((rd_T99 x7 x9).f0) > 255)) ((rd_T99 x7 x9).f0) ((rd_T99 x7 x9).f1))) else (none)) else (none)) else (some (x4, 0))
def codec_Encode.j1 : Nat → List Int → List (S99) → Int → Int → Bool → Int → List Int → Option (List Int × Int)
 | 0, _, _, _, _, _, _, _ => none
 | k + 1, x4, x7, x8, x9, x20, x150000, x150001 => if x20 = true then (some (([] : List Int), 1)) else (if (x150001.length : Int) > 65535 then (some (([] : List Int), 6)) else ((some (([(x150000) % 256, ((x150001.length : Int) / 256) % 256, ((x150001.length : Int)) % 256] : List Int) : List Int)).bind fun y150 => (if x4.length + y150.length < 140737488355328 then ((some (x4 ++ y150 : List Int)).bind fun y153 => (if y153.length + x150001.length < 140737488355328 then (codec_Encode.l0 k (y153 ++ x150001) x7 x8 (wrap64 (x9 + 1))) else (none))) else (none))))
end
def codec_Encode.f (k : Nat) (l0 : List (S99)) : Option (List Int × Int) := codec_Encode.l0 k ([] : List Int) l0 (l0.length : Int) 0
theorem codec_Encode.mono_l : ∀ k, (∀ y0 y1 y2 y3, LeO (codec_Encode.l0 k y0 y1 y2 y3) (codec_Encode.l0 (k + 1) y0 y1 y2 y3)) ∧ (∀ y0 y1 y2 y3 y4 y5 y6, LeO (codec_Encode.j1 k y0 y1 y2 y3 y4 y5 y6) (codec_Encode.j1 (k + 1) y0 y1 y2 y3 y4 y5 y6))
 | 0 => ⟨fun _ _ _ _ r h => by simp [codec_Encode.l0] at h, fun _ _ _ _ _ _ _ r h => by simp [codec_Encode.j1] at h⟩
 | k + 1 => by
  obtain ⟨ih0, ih1⟩ := codec_Encode.mono_l k
  refine ⟨?_, ?_⟩
  ·intro y0 y1 y2 y3
   unfold codec_Encode.l0
   repeat' first
   | (with_reducible exact ih0 _ _ _ _)
   | (with_reducible exact ih1 _ _ _ _ _ _ _)
   | (with_reducible exact LeO.refl _)
   | (with_reducible exact LeO.none _)
   | (with_reducible refine LeO.ite ?_ ?_)
   | (with_reducible refine LeO.bind ?_ (fun _ => ?_))
   | exact ih0 _ _ _ _
   | exact ih1 _ _ _ _ _ _ _
   | exact LeO.none _
   | refine LeO.ite ?_ ?_
   | refine LeO.bind ?_ (fun _ => ?_)
  ·intro y0 y1 y2 y3 y4 y5 y6
   unfold codec_Encode.j1
   repeat' first
   | (with_reducible exact ih0 _ _ _ _)
   | (with_reducible exact ih1 _ _ _ _ _ _ _)
   | (with_reducible exact LeO.refl _)
   | (with_reducible exact LeO.none _)
   | (with_reducible refine LeO.ite ?_ ?_)
   | (with_reducible refine LeO.bind ?_ (fun _ => ?_))
   | exact ih0 _ _ _ _
   | exact ih1 _ _ _ _ _ _ _
   | exact LeO.none _
   | refine LeO.ite ?_ ?_
   | refine LeO.bind ?_ (fun _ => ?_)
theorem codec_Encode.mono : ∀ a0 k, LeO (codec_Encode.f k a0) (codec_Encode.f (k + 1) a0) := by
 intro a0 k
 obtain ⟨ih0, ih1⟩ := codec_Encode.mono_l k
 unfold codec_Encode.f
 repeat' first
   | (with_reducible exact ih0 _ _ _ _)
   | (with_reducible exact ih1 _ _ _ _ _ _ _)
   | (with_reducible exact LeO.refl _)
   | (with_reducible exact LeO.none _)
   | (with_reducible refine LeO.ite ?_ ?_)
   | (with_reducible refine LeO.bind ?_ (fun _ => ?_))
   | exact ih0 _ _ _ _
   | exact ih1 _ _ _ _ _ _ _
   | exact LeO.none _
   | refine LeO.ite ?_ ?_
   | refine LeO.bind ?_ (fun _ => ?_)
set_option maxHeartbeats 8000000 in
set_option maxRecDepth 100000 in
theorem codec_Encode.calls (k : Nat) (A0 : Option Addr) (c0 : Nat) (l0 : List (S99)) (r1 : List Int) (r2 : Int) (w : World) (hr0 : Kd.C k99 w A0 l0.length l0) (hc0 : l0.length ≤ c0) (h : codec_Encode.f k l0 = some (r1, r2)) :
  Calls Try.prog 58 #[.slice A0 l0.length c0] w fun e w' => ∃ v0_ : Value, e = .returned (.tuple #[v0_, .int .i64 r2]) ∧ Kd.R (Kd.int .u8) 5 w' w.heap.size (fun _ => True) v0_ r1 ∧ Below w.heap.size w w' := by
 have hu99 := Try.underlying99
 have HR0 := Aside0.mk hr0
 have HC0 := Aside0.mk hc0
 clear hr0 hc0
 have HB := Aside0.mk (Below.refl w.heap.size w)
 have H : (codec_Encode.l0 k ([] : List Int) l0 (l0.length : Int) 0) = some (r1, r2) := h
 clear h
 have H' := Aside0.mk H
 clear H
 go_enter Try.func58, Try.ntmps58
 go_wp2
 go_loopg [4, 9] k (fun kq v4 v9 w' => ∃ (x4_1 : List Int) (x9_1 : Int), v9 = .int .i64 x9_1 ∧ Aside0 (codec_Encode.l0 kq x4_1 l0 (l0.length : Int) x9_1 = some (r1, r2)) ∧ Aside0 (kq ≤ k) ∧ Aside0 (Kd.R (Kd.int .u8) 5 w' w.heap.size (fun _ => True) v4 x4_1) ∧ Aside0 (Below w.heap.size w w'))
 case atStart => exact ⟨(([] : List Int)), (0), (by first | rfl | (simp; done) | (simp [*]; done)), H', ⟨Nat.le_refl _⟩, ⟨by first | exact Kd.R_nil _ _ _ _ _ | exact Kd.N_nil _ _ _ _ _ | exact Kd.V_nil _ _ _ _ _ | exact Kd.Q_nil _ _ _ _ _ | exact Kd.S_nil _ _ _ _ _⟩, ⟨kw_ HB⟩⟩
 case round =>
  clear H'
  obtain ⟨x4_1, x9_1, rfl, HA, HK1, HO_4, HB⟩ := hrel
  cases gk with
  | zero => exact absurd HA.out (by simp [codec_Encode.l0])
  | succ k1 =>
   have H := HA.out
   clear HA
   simp only [codec_Encode.l0] at H
   by_cases c2 : x9_1 < (l0.length : Int)
   ·rw [if_pos c2] at H
    have c2b0 : decide (x9_1 < (l0.length : Int)) = true := decide_eq_true c2
    clear c2
    by_cases c3 : 0 ≤ x9_1
    ·rw [if_pos c3] at H
     have c3b0 : decide (0 ≤ x9_1) = true := decide_eq_true c3
     clear c3
     by_cases c4 : x9_1 < (l0.length : Int)
     ·rw [if_pos c4] at H
      have c4b0 : decide (x9_1 < (l0.length : Int)) = true := decide_eq_true c4
      clear c4
      have HC5 := Aside0.mk H
      clear H
      have p148 : 0 ≤ (x9_1 : Int) := of_decide_eq_true (by first | (with_reducible assumption) | assumption)
      have q148 : x9_1 < (l0.length : Int) := of_decide_eq_true (by first | (with_reducible assumption) | assumption)
      obtain ⟨ad148, A148_1, c148_1, e148, hx148_0, hx148_1, hl148_1, hi148_1⟩ := at_T99 HR0.out x9_1 p148 q148
      cases e148
      replace hx148_0 := (HB.out.cell (World.block_lt_of_cell? w _ hx148_0)).trans hx148_0
      replace hx148_1 := (HB.out.cell (World.block_lt_of_cell? w _ hx148_1)).trans hx148_1
      have HR148_1 := Aside0.mk hi148_1
      have HC148_1 := Aside0.mk hl148_1
      clear hi148_1 hl148_1
      replace p148 := eq_true p148
      replace q148 := eq_true q148
      go_upto_region 5 with (first | ((with_reducible refine gate_dst (N := 6) rfl ?_); refine bx_ 6 #[.int .i64 0, .slice none 0 0] 99 rfl rfl ?hr ?_; (case hr => go_simp; try rfl); intro gb149 hg w6 hbox hb; have BK149 := Aside0.mk (hbox); have GW149 := gs_ HB hg; have GE149 := gs_ HB hg; replace HO_4 := Aside0.mk (Kd.R_below (by (with_reducible repeat (first | apply Kd.R_alloc | apply Kd.R_drewN | apply Kd.R_drew)); exact HO_4.out) hb); replace HB := bs_ HB hb; clear hb hbox hg; obtain ⟨hcz7_0, hcz7_1, hfz7_0, hfz7_1⟩ := c2_ BK149))
      (try simp only [Act.put, List.setIfInBounds_toArray, List.set_cons_zero, List.set_cons_succ])
      go_cut [20] (fun v20 wc => ∃ (kq : Nat) (x20_4 : Bool), v20 = .bool x20_4 ∧ Aside0 (codec_Encode.j1 kq x4_1 l0 (l0.length : Int) x9_1 x20_4 ((rd_T99 l0 x9_1).f0) ((rd_T99 l0 x9_1).f1) = some (r1, r2)) ∧ Aside0 (kq ≤ k1) ∧ Aside0 (Kd.R (Kd.int .u8) 5 wc w.heap.size (fun _ => True) u4 x4_1) ∧ Aside0 (wc.heap[gb149]? = some (.cells #[.int .i64 ((rd_T99 l0 x9_1).f0), (.slice A148_1 ((rd_T99 l0 x9_1).f1).length c148_1)] 99 (0, 0))) ∧ Aside0 (Below w.heap.size w wc))
      case first =>
       have H := HC5.out
       clear HC5
       by_cases c8 : ((rd_T99 l0 x9_1).f0) < 1
       ·rw [if_pos c8] at H
        have c8b0 : decide (((rd_T99 l0 x9_1).f0) < 1) = true := decide_eq_true c8
        clear c8
        (first | rw [c8b0] | (simp only [i64_w, i32_w]; rw [c8b0]) | skip)
        have H' := Aside0.mk H
        clear H
        obtain ⟨hcz9_0, hcz9_1, hfz9_0, hfz9_1⟩ := c2_ BK149
        go_wp2
        go_meet
        case rel => exact ⟨_, (true), (by first | rfl | (simp; done) | (simp [*]; done)), H', ⟨by have := HK1.out; first | omega | exact Nat.le_refl _⟩, ⟨by (with_reducible repeat (first | apply Kd.R_alloc | apply Kd.R_drewN | apply Kd.R_drew)); exact Kd.R_mono (Kd.R_far (p := ⟨gb149, 1, none⟩) (Kd.R_far (p := ⟨gb149, 0, none⟩) (Kd.R_types HO_4.out BK149.out (by decide)) (fun _ hk => hk.2) (.int .i64 ((rd_T99 l0 x9_1).f0))) (fun _ hk => hk.2) (.slice A148_1 ((rd_T99 l0 x9_1).f1).length c148_1)) (fun _ hk => trivial)⟩, ⟨by (with_reducible repeat (first | refine blk_drewN ?_ _ | refine blk_drew ?_ | refine blk_alloc ?_ _)); refine blk_put (cs := #[.int .i64 ((rd_T99 l0 x9_1).f0), .slice none 0 0]) ?_ 1 _ rfl; (with_reducible repeat (first | refine blk_drewN ?_ _ | refine blk_drew ?_ | refine blk_alloc ?_ _)); refine blk_put (cs := #[.int .i64 0, .slice none 0 0]) ?_ 0 _ rfl; (with_reducible repeat (first | refine blk_drewN ?_ _ | refine blk_drew ?_ | refine blk_alloc ?_ _)); exact BK149.out⟩, ⟨by repeat (first | (with_reducible first | exact HB.out | apply bU | apply bS GE149.out) | exact HB.out)⟩⟩
       ·rw [if_neg c8] at H
        have c8b0 : decide (((rd_T99 l0 x9_1).f0) < 1) = false := decide_eq_false c8
        clear c8
        (first | rw [c8b0] | (simp only [i64_w, i32_w]; rw [c8b0]) | skip)
        have H' := Aside0.mk H
        clear H
        obtain ⟨hcz10_0, hcz10_1, hfz10_0, hfz10_1⟩ := c2_ BK149
        go_wp2
        go_meet
        case rel => exact ⟨_, (decide (((rd_T99 l0 x9_1).f0) > 255)), (by first | rfl | (simp; done) | (simp [*]; done)), H', ⟨by have := HK1.out; first | omega | exact Nat.le_refl _⟩, ⟨by (with_reducible repeat (first | apply Kd.R_alloc | apply Kd.R_drewN | apply Kd.R_drew)); exact Kd.R_mono (Kd.R_far (p := ⟨gb149, 1, none⟩) (Kd.R_far (p := ⟨gb149, 0, none⟩) (Kd.R_types HO_4.out BK149.out (by decide)) (fun _ hk => hk.2) (.int .i64 ((rd_T99 l0 x9_1).f0))) (fun _ hk => hk.2) (.slice A148_1 ((rd_T99 l0 x9_1).f1).length c148_1)) (fun _ hk => trivial)⟩, ⟨by (with_reducible repeat (first | refine blk_drewN ?_ _ | refine blk_drew ?_ | refine blk_alloc ?_ _)); refine blk_put (cs := #[.int .i64 ((rd_T99 l0 x9_1).f0), .slice none 0 0]) ?_ 1 _ rfl; (with_reducible repeat (first | refine blk_drewN ?_ _ | refine blk_drew ?_ | refine blk_alloc ?_ _)); refine blk_put (cs := #[.int .i64 0, .slice none 0 0]) ?_ 0 _ rfl; (with_reducible repeat (first | refine blk_drewN ?_ _ | refine blk_drew ?_ | refine blk_alloc ?_ _)); exact BK149.out⟩, ⟨by repeat (first | (with_reducible first | exact HB.out | apply bU | apply bS GE149.out) | exact HB.out)⟩⟩
      case rest =>
       clear HC5
       (try clear c2); (try clear c2b0); (try clear c3); (try clear c3b0); (try clear c4); (try clear c4b0); (try clear hcz7_0); (try clear hcz7_1); (try clear hfz7_0); (try clear hfz7_1); (try clear hx148_0); (try clear hx148_1); (try clear p148); (try clear q148)
       obtain ⟨kq, x20_4, rfl, HA, HJ4, HO_4, BK149, HB⟩ := hcut
       cases kq with
       | zero => exact absurd HA.out (by simp [codec_Encode.j1])
       | succ kj4 =>
        have H := HA.out
        clear HA
        simp only [codec_Encode.j1] at H
        by_cases c11 : x20_4 = true
        ·subst c11
         have H1 : (some (([] : List Int), 1)) = some (r1, r2) := by rw [if_pos rfl] at H; exact H
         clear H
         have H := H1
         clear H1
         simp only [Option.some.injEq, Prod.mk.injEq] at H
         obtain ⟨rfl, rfl⟩ := H
         go_wp2
         go_ret2
         exact ⟨_, by first | rfl | (simp [errW_none, errW_some] <;> rfl) | (simp [*, errW_none, errW_some] <;> rfl), by first | exact Kd.R_nil _ _ _ _ _ | exact Kd.N_nil _ _ _ _ _ | exact Kd.V_nil _ _ _ _ _ | exact Kd.Q_nil _ _ _ _ _ | exact Kd.S_nil _ _ _ _ _, by repeat (first | (with_reducible first | exact HB.out | apply bU | apply bS GE149.out) | exact HB.out)⟩
        ·replace c11 := Bool.eq_false_iff.mpr c11
         subst c11
         have H1 : (if (((rd_T99 l0 x9_1).f1).length : Int) > 65535 then (some (([] : List Int), 6)) else ((some (([(((rd_T99 l0 x9_1).f0)) % 256, ((((rd_T99 l0 x9_1).f1).length : Int) / 256) % 256, ((((rd_T99 l0 x9_1).f1).length : Int)) % 256] : List Int) : List Int)).bind fun y150 => (if x4_1.length + y150.length < 140737488355328 then ((some (x4_1 ++ y150 : List Int)).bind fun y153 => (if y153.length + ((rd_T99 l0 x9_1).f1).length < 140737488355328 then (codec_Encode.l0 kj4 (y153 ++ ((rd_T99 l0 x9_1).f1)) l0 (l0.length : Int) (wrap64 (x9_1 + 1))) else (none))) else (none)))) = some (r1, r2) := by rw [if_neg (show ¬ (false = true) by decide)] at H; exact H
         clear H
         have H := H1
         clear H1
         by_cases c12 : (((rd_T99 l0 x9_1).f1).length : Int) > 65535
         ·rw [if_pos c12] at H
          have c12b0 : decide (65535 < (((rd_T99 l0 x9_1).f1).length : Int)) = true := decide_eq_true c12
          have c12b1 : decide (65535 < ((rd_T99 l0 x9_1).f1).length) = true := decide_eq_true (by omega)
          clear c12
          simp only [Option.some.injEq, Prod.mk.injEq] at H
          obtain ⟨rfl, rfl⟩ := H
          obtain ⟨hcz13_0, hcz13_1, hfz13_0, hfz13_1⟩ := c2_ BK149
          go_wp2
          go_ret2
          exact ⟨_, by first | rfl | (simp [errW_none, errW_some] <;> rfl) | (simp [*, errW_none, errW_some] <;> rfl), by first | exact Kd.R_nil _ _ _ _ _ | exact Kd.N_nil _ _ _ _ _ | exact Kd.V_nil _ _ _ _ _ | exact Kd.Q_nil _ _ _ _ _ | exact Kd.S_nil _ _ _ _ _, by repeat (first | (with_reducible first | exact HB.out | apply bU | apply bS GE149.out) | exact HB.out)⟩
         ·rw [if_neg c12] at H
          have c12b0 : decide (65535 < (((rd_T99 l0 x9_1).f1).length : Int)) = false := decide_eq_false c12
          have c12b1 : decide (65535 < ((rd_T99 l0 x9_1).f1).length) = false := decide_eq_false (by omega)
          clear c12
          obtain ⟨y150, hy150⟩ : ∃ y_ : List Int, y_ = (([(((rd_T99 l0 x9_1).f0)) % 256, ((((rd_T99 l0 x9_1).f1).length : Int) / 256) % 256, ((((rd_T99 l0 x9_1).f1).length : Int)) % 256] : List Int)) := ⟨_, rfl⟩
          replace H : (if x4_1.length + y150.length < 140737488355328 then ((some (x4_1 ++ y150 : List Int)).bind fun y153 => (if y153.length + ((rd_T99 l0 x9_1).f1).length < 140737488355328 then (codec_Encode.l0 kj4 (y153 ++ ((rd_T99 l0 x9_1).f1)) l0 (l0.length : Int) (wrap64 (x9_1 + 1))) else (none))) else (none)) = some (r1, r2) := by first | (rw [hy150]; with_reducible exact H) | (have H2_ := (Option.bind_some _ _).symm.trans H; rw [hy150]; with_reducible exact H2_) | (have H2_ := (Option.bind_some _ _).symm.trans H; with_reducible exact H2_) | with_reducible exact H | (rw [hy150]; exact H) | exact H
          have Ny150 := Aside0.mk hy150
          clear hy150
          by_cases c14 : x4_1.length + y150.length < 140737488355328
          ·rw [if_pos c14] at H
           have LMc14 := Aside0.mk c14
           clear c14
           obtain ⟨y153, hy153⟩ : ∃ y_ : List Int, y_ = (x4_1 ++ y150) := ⟨_, rfl⟩
           replace H : (if y153.length + ((rd_T99 l0 x9_1).f1).length < 140737488355328 then (codec_Encode.l0 kj4 (y153 ++ ((rd_T99 l0 x9_1).f1)) l0 (l0.length : Int) (wrap64 (x9_1 + 1))) else (none)) = some (r1, r2) := by first | (rw [hy153]; with_reducible exact H) | (have H2_ := (Option.bind_some _ _).symm.trans H; rw [hy153]; with_reducible exact H2_) | (have H2_ := (Option.bind_some _ _).symm.trans H; with_reducible exact H2_) | with_reducible exact H | (rw [hy153]; exact H) | exact H
           have Ny153 := Aside0.mk hy153
           clear hy153
           by_cases c15 : y153.length + ((rd_T99 l0 x9_1).f1).length < 140737488355328
           ·rw [if_pos c15] at H
            have LMc15 := Aside0.mk c15
            clear c15
            obtain ⟨y156, hy156⟩ : ∃ y_ : List Int, y_ = (y153 ++ ((rd_T99 l0 x9_1).f1)) := ⟨_, rfl⟩
            replace H : (codec_Encode.l0 kj4 y156 l0 (l0.length : Int) (wrap64 (x9_1 + 1))) = some (r1, r2) := by first | (rw [hy156]; with_reducible exact H) | (have H2_ := (Option.bind_some _ _).symm.trans H; rw [hy156]; with_reducible exact H2_) | (have H2_ := (Option.bind_some _ _).symm.trans H; with_reducible exact H2_) | with_reducible exact H | (rw [hy156]; exact H) | exact H
            have Ny156 := Aside0.mk hy156
            clear hy156
            have H' := Aside0.mk H
            clear H
            obtain ⟨hcz16_0, hcz16_1, hfz16_0, hfz16_1⟩ := c2_ BK149
            go_wp2_with (first | ((with_reducible refine gate_dst (N := 38) rfl ?_); refine Kd.R_lit (Kd.int .u8) _ 5 ?hg (N := 38) ?hd (xs := ([(((rd_T99 l0 x9_1).f0)) % 256, ((((rd_T99 l0 x9_1).f1).length : Int) / 256) % 256, ((((rd_T99 l0 x9_1).f1).length : Int)) % 256] : List Int)) (inner := [.int .u8 ((((rd_T99 l0 x9_1).f0)) % 256), .int .u8 (((((rd_T99 l0 x9_1).f1).length : Int) / 256) % 256), .int .u8 (((((rd_T99 l0 x9_1).f1).length : Int)) % 256)]) (ok := fun _ => True) (okp := fun _ => True) ?hr ?hp (fun _ hk => hk) trivial (Below.refl _ _) (Nat.le_refl _) (by simp) ?_; (case hd => rfl); (case hg => rfl); (case hr => first | (go_simp; done) | (go_simp; rfl)); (case hp => exact (Reps.one (show Kd.M (Kd.int .u8) _ _ _ ((((rd_T99 l0 x9_1).f0)) % 256) [.int .u8 ((((rd_T99 l0 x9_1).f0)) % 256)] from rfl) (Reps.one (show Kd.M (Kd.int .u8) _ _ _ (((((rd_T99 l0 x9_1).f1).length : Int) / 256) % 256) [.int .u8 (((((rd_T99 l0 x9_1).f1).length : Int) / 256) % 256)] from rfl) (Reps.one (show Kd.M (Kd.int .u8) _ _ _ (((((rd_T99 l0 x9_1).f1).length : Int)) % 256) [.int .u8 (((((rd_T99 l0 x9_1).f1).length : Int)) % 256)] from rfl) (Reps.none _ _))))); intro v151 w17 ho18 hb hg_ hnew_; clear hg_ hnew_; (first | rw [← Ny150.out] at ho18 | (simp only [Int.reduceToNat] at ho18; rw [← Ny150.out] at ho18)); have HO152 := Aside0.mk (Kd.R_lower (Kd.R_new' ho18 (Kd.R_lt (by (with_reducible repeat (first | apply Kd.R_alloc | apply Kd.R_drewN | apply Kd.R_drew)); exact HO_4.out))) (below_size (by repeat (first | (with_reducible first | exact HB.out | apply bU | apply bS GE149.out) | exact HB.out)))); replace HO_4 := Aside0.mk (Kd.R_elder' (by (with_reducible repeat (first | apply Kd.R_alloc | apply Kd.R_drewN | apply Kd.R_drew)); exact HO_4.out) (Kd.R_base ho18) hb); replace BK149 := bb_ BK149 hb; replace HB := Aside0.mk (below_step (by repeat (first | (with_reducible first | exact HB.out | apply bU | apply bS GE149.out) | exact HB.out)) hb); clear hb ho18; obtain ⟨Ao20, co20, eo20⟩ := Kd.R_slice HO152.out; subst eo20) | ((with_reducible refine gate_builtin (b := .append) (xs := #[.tmp 25, .tmp 38]) rfl ?_); at_builtin; refine Kd.R_append_rows (Kd.int .u8) (w0 := w) w.heap.size rfl (.tmp 25) (.tmp 38) 82 5 (.int .u8 0) 1 rfl Try.underlying82 info5 rfl (by decide) (by omega) u4 x4_1 y150 _ _ _ (fun k_ => some k_ ≠ (.slice Ao20 y150.length co20 : Value).ownBlock) (fun _ => False) rfl rfl ?aO ?aR (fun _ _ h => h) (fun _ h => h.elim) ?aF ?aB ?aS ?aL ?_; (case aR => repeat (first | exact (Kd.R_reads' HO152.out).2.2 | (with_reducible refine Kd.C_alloc ?_ _) | (with_reducible refine Kd.C_drewN ?_ _) | (with_reducible refine Kd.C_drew ?_))); (case aB => exact (by repeat (first | (with_reducible first | exact HB.out | apply bU | apply bS GE149.out) | exact HB.out))); (case aF => exact (fun k_ hk => Kd.fresh' (Kd.R_lt (by (with_reducible repeat (first | apply Kd.R_alloc | apply Kd.R_drewN | apply Kd.R_drew)); exact HO152.out)) k_ hk)); (case aO => exact (by (with_reducible repeat (first | apply Kd.R_alloc | apply Kd.R_drewN | apply Kd.R_drew)); exact Kd.R_mono HO_4.out (fun _ hk => hk.2))); (case aS => exact (below_size (by repeat (first | (with_reducible first | exact HB.out | apply bU | apply bS GE149.out) | exact HB.out)))); (case aL => have := LMc14.out; omega); intro v154 w19 ho hb hg hat; rw [← Ny153.out] at ho; have HO155 := Aside0.mk (ho); replace BK149 := Aside0.mk (blk_grown (g := gb149) (o := .cells #[.int .i64 ((rd_T99 l0 x9_1).f0), .slice A148_1 ((rd_T99 l0 x9_1).f1).length c148_1] 99 (0, 0)) (kb_ BK149) hg (Kd.R_ne HO_4.out BK149.out (by decide))); replace HO152 := Aside0.mk (Kd.R_after (ok := (fun _ => True)) (by (with_reducible repeat (first | apply Kd.R_alloc | apply Kd.R_drewN | apply Kd.R_drew)); exact HO152.out) hg hat); replace HB := Aside0.mk (hb); clear HO_4; clear ho hb hg hat; obtain ⟨hcz21_0, hcz21_1, hfz21_0, hfz21_1⟩ := c2_ BK149) | ((with_reducible refine gate_builtin (b := .append) (xs := #[.tmp 40, .tmp 42]) rfl ?_); at_builtin; refine Kd.R_append_rows (Kd.int .u8) (w0 := w) w.heap.size rfl (.tmp 40) (.tmp 42) 82 5 (.int .u8 0) 1 rfl Try.underlying82 info5 rfl (by decide) (by omega) v154 y153 ((rd_T99 l0 x9_1).f1) _ _ _ (fun k_ => some k_ ≠ (.slice Ao20 y150.length co20 : Value).ownBlock) (fun _ => False) rfl rfl ?aO ?aR (fun _ _ h => h) (fun _ h => h.elim) ?aF ?aB ?aS ?aL ?_; (case aR => repeat (first | exact (Kd.C_below HR148_1.out HB.out) | (with_reducible refine Kd.C_alloc ?_ _) | (with_reducible refine Kd.C_drewN ?_ _) | (with_reducible refine Kd.C_drew ?_))); (case aB => exact (by repeat (first | (with_reducible first | exact HB.out | apply bU | apply bS GE149.out) | exact HB.out))); (case aF => exact (fun k_ hk => Kd.fresh' (Kd.R_lt (by (with_reducible repeat (first | apply Kd.R_alloc | apply Kd.R_drewN | apply Kd.R_drew)); exact HO152.out)) k_ hk)); (case aO => exact (by (with_reducible repeat (first | apply Kd.R_alloc | apply Kd.R_drewN | apply Kd.R_drew)); exact HO155.out)); (case aS => exact (below_size (by repeat (first | (with_reducible first | exact HB.out | apply bU | apply bS GE149.out) | exact HB.out)))); (case aL => have := LMc15.out; omega); intro v157 w22 ho hb hg hat; rw [← Ny156.out] at ho; have HO158 := Aside0.mk (ho); replace BK149 := Aside0.mk (blk_grown (g := gb149) (o := .cells #[.int .i64 ((rd_T99 l0 x9_1).f0), .slice A148_1 ((rd_T99 l0 x9_1).f1).length c148_1] 99 (0, 0)) (kb_ BK149) hg (Kd.R_ne HO155.out BK149.out (by decide))); replace HO152 := Aside0.mk (Kd.R_after (ok := (fun _ => True)) (by (with_reducible repeat (first | apply Kd.R_alloc | apply Kd.R_drewN | apply Kd.R_drew)); exact HO152.out) hg hat); replace HB := Aside0.mk (hb); clear HO155; clear ho hb hg hat))
            go_roundg kj4
            case measure => have := HK1.out; have := HJ4.out; omega
            case rel => exact ⟨(y156), (wrap64 (x9_1 + 1)), (by first | rfl | (simp; done) | (simp [*]; done)), H', ⟨by have := HK1.out; have := HJ4.out; omega⟩, ⟨by (with_reducible repeat (first | apply Kd.R_alloc | apply Kd.R_drewN | apply Kd.R_drew)); exact Kd.R_mono HO158.out (fun _ hk => trivial)⟩, ⟨by repeat (first | (with_reducible first | exact HB.out | apply bU | apply bS GE149.out) | exact HB.out)⟩⟩
           ·rw [if_neg c15] at H
            exact absurd H (by simp)
          ·rw [if_neg c14] at H
           exact absurd H (by simp)
     ·rw [if_neg c4] at H
      exact absurd H (by simp)
    ·rw [if_neg c3] at H
     exact absurd H (by simp)
   ·rw [if_neg c2] at H
    have c2b0 : decide (x9_1 < (l0.length : Int)) = false := decide_eq_false c2
    clear c2
    simp only [Option.some.injEq, Prod.mk.injEq] at H
    obtain ⟨rfl, rfl⟩ := H
    go_wp2
    go_ret2
    exact ⟨_, by first | rfl | (simp [errW_none, errW_some] <;> rfl) | (simp [*, errW_none, errW_some] <;> rfl), by (with_reducible repeat (first | apply Kd.R_alloc | apply Kd.R_drewN | apply Kd.R_drew)); exact HO_4.out, kw_ HB⟩

/-! ### fletcher_reduce: function 67 -/
def fletcher_reduce.f (a0 : Int) : Option (Int) := some (Int.tmod (wrap64 ((Int.tmod a0 255) + 255)) 255)
set_option maxHeartbeats 8000000 in
set_option maxRecDepth 100000 in
theorem fletcher_reduce.calls (a0 : Int) (r : Int) (w : World) (h : fletcher_reduce.f a0 = some r) :
  Calls Try.prog 67 #[.int .i64 a0] w fun e w' => e = .returned (.int .i64 r) ∧ Drawn0 w w' := by
 have H : (some (Int.tmod (wrap64 ((Int.tmod a0 255) + 255)) 255)) = some r := h
 clear h
 obtain rfl := Option.some.inj H
 go_enter Try.func67, Try.ntmps67
 go_wp2
 go_ret
 exact ⟨by first | rfl | (simp; done) | (simp [*]; done), by repeat (first | exact Drawn0.refl _ | apply Drawn0.step)⟩

end Go.Proofs.Ytdkfhlfojleejaa.HLsc
