/-
  origin: Set, by hand.
-/
import Derived.Test.YtdkfhlfojleejaaOrgC
namespace Go.Proofs.Ytdkfhlfojleejaa.HLsc
open Go.RowKit Go.Proofs.YtdkfhlfojleejaaW.PrintWords Go.Proofs.YtdkfhlfojleejaaW.PrintLast Go.Proofs.YtdkfhlfojleejaaW.PrintMore
attribute [local go_sem] gtr_str leq_str max2_int min2_int max_two min_two max_three min_three max_four min_four
set_option linter.unusedVariables false
set_option linter.unusedSimpArgs false
set_option linter.unusedSectionVars false
variable [ZZ]
def OS.set (s : OS) (ov : Bool) (la : List S72) (lp : List S76) (v q : Bool) : OS × Bool × Int :=
  if v = false then (s, false, 1) else if s.cur = true ∧ q = true then (s, false, 0) else if s.floor ≥ 1073741824 then (s, false, 6) else (s.made ov la lp s.floor, true, 0)
def se.T5 : Bool × List (List Nat × List Nat) := (true, [([], []), ([0], [0]), ([1], [1]), ([2], [2]), ([3], [3]), ([4], [4]), ([4], [4]), ([5, 6, 4, 4], [4, 5, 6]), ([4], [4]), ([4], [4]), ([9, 4], [4, 9]), ([10, 4], [4, 10]), ([11, 4], [4, 11]), ([8, 12, 7, 4], [4, 8, 12]), ([7, 13, 13, 4], [4, 7, 13]), ([4, 14], [4, 14]), ([15, 14], [15])])
def se.B5 : List Nat := [0, 1, 3, 7, 15, 31, 31, 127, 31, 31, 543, 1567, 3615, 8191, 16383, 32767, 65535]
theorem se.tab5 : rtab .any (opsOf Try.f16 5) = se.T5 := by kernel_rfl
theorem se.bits5 : waitsOk se.T5.2 se.B5 = true := by kernel_rfl
def se.T7 : Bool × List (List Nat × List Nat) := (true, [([], []), ([], []), ([1], [1]), ([], []), ([3], [3]), ([4], [4]), ([5], [5]), ([0, 2, 6, 2], [0, 2, 6]), ([7, 7, 0, 1, 2, 3, 4, 5, 6, 7], [7])])
def se.B7 : List Nat := [0, 0, 2, 0, 8, 24, 56, 127, 255]
theorem se.tab7 : rtab .any (opsOf Try.f16 7) = se.T7 := by kernel_rfl
theorem se.bits7 : waitsOk se.T7.2 se.B7 = true := by kernel_rfl
set_option maxHeartbeats 8000000 in
set_option maxRecDepth 100000 in
theorem set_calls (g : Nat) (s : OS) (ov : Bool) (v1 v2 : Value) (la : List S72) (lp : List S76) (v q : Bool) (kv kq : Nat) (w : World) (hO : Orig w g s) (h1 : RdA w v1 la) (h2 : RdP w v2 lp)
    (hla : la.length < 1000000000) (hlp : lp.length < 1000000000) (ha : s.adj.length < 1000000000) (hp : s.pre.length < 1000000000)
    (hv : lsa_Valid.f kv s.node 1 0 ov la lp = some v) (hq : s.cur = true → v = true → lsa_Same.f kq s.node 1 0 ov la lp s.node 1 0 s.ov s.adj s.pre = some q) :
    Calls Try.prog 16 #[.pointer (some ⟨g, 0, none⟩), .agg #[.bool ov, v1, v2]] w fun e w' => e = .returned (.tuple #[.bool (s.set ov la lp v q).2.1, .int .i64 (s.set ov la lp v q).2.2]) ∧ Orig w' g (s.set ov la lp v q).1 ∧ Mut g w w' := by
  have hu := Try.underlying49
  have HO := Aside0.mk hO
  have X1 := Aside0.mk h1
  have X2 := Aside0.mk h2
  obtain ⟨A1, c1, rfl, -, -⟩ := h1
  obtain ⟨A2, c2, rfl, -, -⟩ := h2
  have HV := Aside0.mk hv
  have HQ := Aside0.mk hq
  clear hO hv hq
  have Hg : g < w.heap.size := by obtain ⟨_, _, h, _⟩ := HO.out; exact blk_lt h
  go_enter Try.func16, Try.ntmps16
  go_wp2_with (
    first
    | ((with_reducible refine gate_dst (N := 3) rfl ?_); refine box_event ?hg (N := 3) ?hd (cs := #[.bool ov, .slice A1 la.length c1, .slice A2 lp.length c2]) (t := 49) ?hr ?_; (case hd => rfl); (case hg => rfl); (case hr => first | (go_simp; done) | (go_simp; rfl)); intro b1 hg wa hbox hb; have O1 := Aside0.mk (HO.out.below hb); have B1 := Aside0.mk hbox; have HB := Aside0.mk hb; have Y1 := Aside0.mk (X1.out.below hb); have Y2 := Aside0.mk (X2.out.below hb); have x0 : wa.cell? ⟨b1, 0, none⟩ = some (.bool ov) := (blk_cell B1.out 0).trans rfl; have xf0 := blk_frozen B1.out 0; have x1 : wa.cell? ⟨b1, 1, none⟩ = some (.slice A1 la.length c1) := (blk_cell B1.out 1).trans rfl; have xf1 := blk_frozen B1.out 1; have x2 : wa.cell? ⟨b1, 2, none⟩ = some (.slice A2 lp.length c2) := (blk_cell B1.out 2).trans rfl; have xf2 := blk_frozen B1.out 2; obtain ⟨u1, u2, ob, -, -⟩ := O1.out; have OB1 := Aside0.mk ob; clear ob; clear hbox hb hg)
    | ((with_reducible refine gate_callee (f := 29) rfl ?_); refine goesL_ (some 13) rfl rfl Try.func29 (by kernel_rfl) rfl #[.pointer (some ⟨g, 0, none⟩), .agg #[.bool ov, .slice A1 la.length c1, .slice A2 lp.length c2], .int .i64 1] rfl (by (try simp only [List.map_toArray, List.map_cons, List.map_nil]); first | done | rfl | (simp only [List.length_drop, List.length_take]; rfl)) ?_; refine (with_calls g s u1 u2 _ _ ov la lp 1 _ OB1.out Y1.out Y2.out hla hlp).mono ?_; rintro e wb ⟨r1, r2, rfl, f1, f2, hb⟩; refine ⟨_, rfl, ?_⟩; have O2 := Aside0.mk (O1.out.below hb); have B2 := Aside0.mk (blk_below B1.out hb); have HB2 := Aside0.mk (below_step HB.out hb); have Z1 := Aside0.mk (Y1.out.below hb); have Z2 := Aside0.mk (Y2.out.below hb); obtain ⟨A3, c3, rfl, h3, g3⟩ := f1.rd; obtain ⟨A4, c4, rfl, h4, g4⟩ := f2.rd; have G3 := Aside0.mk g3; have G4 := Aside0.mk g4; clear f1 f2 hb g3 g4; dsimp only [LSAv])
    | ((with_reducible refine gate_callee (f := 20) rfl ?_); refine goesL_ (some 14) rfl rfl Try.func20 (by kernel_rfl) rfl #[.agg #[.int .i64 s.node, .int .i64 1, .int .i64 0, .bool ov, .slice A3 la.length c3, .slice A4 lp.length c4]] rfl (by (try simp only [List.map_toArray, List.map_cons, List.map_nil]); first | done | rfl | (simp only [List.length_drop, List.length_take]; rfl)) ?_; refine (lsa_Valid.calls kv s.node 1 0 ov A3 c3 la A4 c4 lp v _ G3.out h3 G4.out h4 HV.out).mono ?_; rintro e wc ⟨rfl, hb⟩; refine ⟨_, rfl, ?_⟩; have O3 := Aside0.mk (O2.out.below hb); have B3 := Aside0.mk (blk_below B2.out hb); have HB3 := Aside0.mk (below_step HB2.out hb); have W1 := Aside0.mk (Z1.out.below hb); have W2 := Aside0.mk (Z2.out.below hb); clear hb; clear G3 G4; cases v))
  · refine bodyPost_ret (results_tmp2 rfl _ _ _) rfl ?_
    exact ⟨rfl, O3.out, Mut.of_below HB3.out (Nat.le_of_lt Hg)⟩
  obtain ⟨w1, w2, ob, k1, k2⟩ := O3.out
  have K1 := Aside0.mk k1
  have K2 := Aside0.mk k2
  obtain ⟨-, A5, c5, rfl, -, -⟩ := k1
  obtain ⟨-, A6, c6, rfl, -, -⟩ := k2
  have OB3 := Aside0.mk ob
  clear ob x0 x1 x2 xf0 xf1 xf2
  rcases hc : s.cur with _ | _
  · refine start_ (n := 17) (S := fun w' => w'.cell? ⟨g, 6, none⟩ = some (.bool false)) (ds := []) #[false, false, false, false, false, false, false, false, false, false, false, false, false, false, false, false, false] (by kernel_rfl) rfl rfl ((blk_cell OB3.out 6).trans (by rw [hc]; rfl)) (fun hHeld => ?_); refine with_tabW se.tab5 se.bits5 (fun HT_ HW_ => ?_)
    have O5 := Aside0.mk (O3.out.below (below_drew (Below.refl _ _)))
    have B5 := Aside0.mk (blk_drew B3.out)
    have HB5 := Aside0.mk (below_drew1 HB3.out)
    have P1 := Aside0.mk (W1.out.below (below_drew (Below.refl _ _)))
    have P2 := Aside0.mk (W2.out.below (below_drew (Below.refl _ _)))
    generalize wc.drew = wz at O5 B5 HB5 P1 P2 hHeld ⊢
    refine pz 0 17 HT_ rfl rfl (by kernel_rfl) (fun _ _ _ h => h) (Or.inl ⟨by rfl, by intro w'; go_simp; with_reducible rfl⟩) (by simp only [Act.put, List.setIfInBounds_toArray, List.set_cons_zero, List.set_cons_succ, i64_w, i32_w]; rfl) ?_
    refine pz 1 18 HT_ rfl rfl (by kernel_rfl) (fun _ _ _ h => h) (Or.inl ⟨by rfl, by intro w'; go_simp; with_reducible rfl⟩) (by simp only [Act.put, List.setIfInBounds_toArray, List.set_cons_zero, List.set_cons_succ, i64_w, i32_w]; rfl) ?_
    refine pz 2 19 HT_ rfl rfl (by kernel_rfl) (fun _ _ _ h => h) (Or.inl ⟨by rfl, by intro w'; go_simp; with_reducible rfl⟩) (by simp only [Act.put, List.setIfInBounds_toArray, List.set_cons_zero, List.set_cons_succ, i64_w, i32_w]; rfl) ?_
    refine tz 3 20 HT_ HW_ rfl rfl (by kernel_rfl) (fun _ _ _ h => h) (Or.inl ⟨by rfl, by rintro w' s0; go_simp; with_reducible rfl⟩) hHeld (by simp only [Act.put, List.setIfInBounds_toArray, List.set_cons_zero, List.set_cons_succ, i64_w, i32_w]; rfl) ?_
    refine pz 4 21 HT_ rfl rfl (by kernel_rfl) (fun _ _ _ h => h) (Or.inl ⟨by rfl, by intro w'; go_simp; with_reducible rfl⟩) (by simp only [Act.put, List.setIfInBounds_toArray, List.set_cons_zero, List.set_cons_succ, i64_w, i32_w]; rfl) ?_
    refine pz (v := undef) 5 22 HT_ rfl rfl (by kernel_rfl) (fun _ _ _ h => h) (Or.inr ⟨by rfl, rfl⟩) (by simp only [Act.put, List.setIfInBounds_toArray, List.set_cons_zero, List.set_cons_succ, i64_w, i32_w]; rfl) ?_
    refine pz (v := undef) 6 23 HT_ rfl rfl (by kernel_rfl) (fun _ _ _ h => h) (Or.inr ⟨by rfl, rfl⟩) (by simp only [Act.put, List.setIfInBounds_toArray, List.set_cons_zero, List.set_cons_succ, i64_w, i32_w]; rfl) ?_
    refine pz (v := undef) 7 24 HT_ rfl rfl (by kernel_rfl) (fun _ _ _ h => h) (Or.inr ⟨by rfl, rfl⟩) (by simp only [Act.put, List.setIfInBounds_toArray, List.set_cons_zero, List.set_cons_succ, i64_w, i32_w]; rfl) ?_
    refine pz (v := undef) 8 25 HT_ rfl rfl (by kernel_rfl) (fun _ _ _ h => h) (Or.inr ⟨by rfl, rfl⟩) (by simp only [Act.put, List.setIfInBounds_toArray, List.set_cons_zero, List.set_cons_succ, i64_w, i32_w]; rfl) ?_
    refine pz (v := undef) 9 26 HT_ rfl rfl (by kernel_rfl) (fun _ _ _ h => h) (Or.inr ⟨by rfl, rfl⟩) (by simp only [Act.put, List.setIfInBounds_toArray, List.set_cons_zero, List.set_cons_succ, i64_w, i32_w]; rfl) ?_
    refine pz (v := undef) 10 27 HT_ rfl rfl (by kernel_rfl) (fun _ _ _ h => h) (Or.inr ⟨by rfl, rfl⟩) (by simp only [Act.put, List.setIfInBounds_toArray, List.set_cons_zero, List.set_cons_succ, i64_w, i32_w]; rfl) ?_
    refine pz (v := undef) 11 28 HT_ rfl rfl (by kernel_rfl) (fun _ _ _ h => h) (Or.inr ⟨by rfl, rfl⟩) (by simp only [Act.put, List.setIfInBounds_toArray, List.set_cons_zero, List.set_cons_succ, i64_w, i32_w]; rfl) ?_
    refine pz (v := undef) 12 29 HT_ rfl rfl (by kernel_rfl) (fun _ _ _ h => h) (Or.inr ⟨by rfl, rfl⟩) (by simp only [Act.put, List.setIfInBounds_toArray, List.set_cons_zero, List.set_cons_succ, i64_w, i32_w]; rfl) ?_
    refine pz (v := undef) 13 30 HT_ rfl rfl (by kernel_rfl) (fun _ _ _ h => h) (Or.inr ⟨by rfl, rfl⟩) (by simp only [Act.put, List.setIfInBounds_toArray, List.set_cons_zero, List.set_cons_succ, i64_w, i32_w]; rfl) ?_
    refine pz (v := undef) 14 31 HT_ rfl rfl (by kernel_rfl) (fun _ _ _ h => h) (Or.inr ⟨by rfl, rfl⟩) (by simp only [Act.put, List.setIfInBounds_toArray, List.set_cons_zero, List.set_cons_succ, i64_w, i32_w]; rfl) ?_
    refine pz 15 32 HT_ rfl rfl (by kernel_rfl) (fun _ _ _ h => h) (Or.inl ⟨by rfl, by intro w'; go_simp; with_reducible rfl⟩) (by simp only [Act.put, List.setIfInBounds_toArray, List.set_cons_zero, List.set_cons_succ, i64_w, i32_w]; rfl) ?_
    refine pz 16 16 HT_ rfl rfl (by kernel_rfl) (fun _ _ _ h => h) (Or.inl ⟨by rfl, by intro w'; go_simp; with_reducible rfl⟩) (by simp only [Act.put, List.setIfInBounds_toArray, List.set_cons_zero, List.set_cons_succ, i64_w, i32_w]; rfl) ?_
    refine done_ (done_of HT_.out (by kernel_rfl)) ?_
    have hset : s.set ov la lp true q = (if s.floor ≥ 1073741824 then (s, false, 6) else (s.made ov la lp s.floor, true, 0)) := by simp [OS.set, hc]
    clear HT_ HW_ hHeld
    go_wp2_with fail
    obtain ⟨y1, y2, oy, -, -⟩ := O5.out
    have OB5 := Aside0.mk oy
    clear oy
    refine start_ (n := 9) (S := fun w' => w'.cell? ⟨b1, 0, none⟩ = some (.bool ov) ∧ w'.cell? ⟨b1, 1, none⟩ = some (.slice A1 la.length c1) ∧ w'.cell? ⟨b1, 2, none⟩ = some (.slice A2 lp.length c2) ∧ w'.cell? ⟨g, 4, none⟩ = some (.int .i64 s.floor)) (ds := [7]) #[false, false, false, false, false, false, false, false, false] (by kernel_rfl) rfl rfl ⟨(blk_cell B5.out 0).trans rfl, (blk_cell B5.out 1).trans rfl, (blk_cell B5.out 2).trans rfl, (blk_cell OB5.out 4).trans rfl⟩ (fun hHeld => ?_); refine with_tabW se.tab7 se.bits7 (fun HT_ HW_ => ?_)
    have O6 := Aside0.mk (O5.out.below (below_drew (Below.refl _ _)))
    have OB6 := Aside0.mk (blk_drew OB5.out)
    have B6 := Aside0.mk (blk_drew B5.out)
    have HB6 := Aside0.mk (below_drew1 HB5.out)
    have P3 := Aside0.mk (P1.out.below (below_drew (Below.refl _ _)))
    have P4 := Aside0.mk (P2.out.below (below_drew (Below.refl _ _)))
    generalize wz.drew = wy at O6 OB6 B6 HB6 P3 P4 hHeld ⊢
    clear O5 B5 HB5 P1 P2 OB5
    refine pz 0 33 HT_ rfl rfl (by kernel_rfl) (fun _ _ _ h => h) (Or.inl ⟨by rfl, by intro w'; go_simp; with_reducible rfl⟩) (by simp only [Act.put, List.setIfInBounds_toArray, List.set_cons_zero, List.set_cons_succ, i64_w, i32_w]; rfl) ?_
    refine pz 3 36 HT_ rfl rfl (by kernel_rfl) (fun _ _ _ h => h) (Or.inl ⟨by rfl, by intro w'; go_simp; with_reducible rfl⟩) (by simp only [Act.put, List.setIfInBounds_toArray, List.set_cons_zero, List.set_cons_succ, i64_w, i32_w]; rfl) ?_
    refine pz 4 37 HT_ rfl rfl (by kernel_rfl) (fun _ _ _ h => h) (Or.inl ⟨by rfl, by intro w'; go_simp; with_reducible rfl⟩) (by simp only [Act.put, List.setIfInBounds_toArray, List.set_cons_zero, List.set_cons_succ, i64_w, i32_w]; rfl) ?_
    refine pz 5 38 HT_ rfl rfl (by kernel_rfl) (fun _ _ _ h => h) (Or.inl ⟨by rfl, by intro w'; go_simp; with_reducible rfl⟩) (by simp only [Act.put, List.setIfInBounds_toArray, List.set_cons_zero, List.set_cons_succ, i64_w, i32_w]; rfl) ?_
    refine tz 1 34 HT_ HW_ rfl rfl (by kernel_rfl) (fun _ _ _ h => h) (Or.inl ⟨by rfl, by rintro w' ⟨s0, s1, s2, s3⟩; go_simp; with_reducible rfl⟩) hHeld (by simp only [Act.put, List.setIfInBounds_toArray, List.set_cons_zero, List.set_cons_succ, i64_w, i32_w]; rfl) ?_
    refine tz 6 39 HT_ HW_ rfl rfl (by kernel_rfl) (fun _ _ _ h => h) (Or.inl ⟨by rfl, by rintro w' ⟨s0, s1, s2, s3⟩; go_simp; with_reducible rfl⟩) hHeld (by simp only [Act.put, List.setIfInBounds_toArray, List.set_cons_zero, List.set_cons_succ, i64_w, i32_w]; rfl) ?_
    refine one_ (i := 2) (N := some 35) #[true, true, true, true, true, true, true, false, false] rfl rfl (one_of HT_.out (by kernel_rfl)) (by decide) (fun K hK => ?_)
    refine goes_ Try.func33 (by kernel_rfl) rfl #[.agg #[.bool ov, .slice A1 la.length c1, .slice A2 lp.length c2]] (by rfl) rfl rfl (by (try simp only [List.map_toArray, List.map_cons, List.map_nil]); first | done | rfl | (simp only [List.length_drop, List.length_take]; rfl)) ?_
    refine (origin_clone.calls ov A1 c1 la A2 c2 lp ov la lp _ P3.out.C.2 P3.out.C.1 P4.out.C.2 P4.out.C.1 (clone_some ov la lp hla hlp)).mono ?_
    rintro e wx ⟨r1, r2, rfl, hr1, hr2, hb⟩
    refine ⟨_, rfl, ?_⟩
    have hgy : g < wy.heap.size := blk_lt OB6.out
    have F1 := Aside0.mk ((FkA.of_R (S := (· < wy.heap.size)) hr1 (fun k hk => hk)).ft (g := g) hgy (fun k h => Nat.lt_of_lt_of_le (O6.out.zb k h) hb.size) (fun k h => O6.out.zb k h))
    have F2 := Aside0.mk ((FkP.of_R (S := (· < wy.heap.size)) hr2 (fun k hk => hk)).ft (g := g) hgy (fun k h => Nat.lt_of_lt_of_le (O6.out.zb k h) hb.size) (fun k h => O6.out.zb k h))
    have O7 := Aside0.mk (O6.out.below hb)
    have OB7 := Aside0.mk (blk_below OB6.out hb)
    have B7 := Aside0.mk (blk_below B6.out hb)
    have HB7 := Aside0.mk (below_step HB6.out hb)
    clear hr1 hr2 hb
    refine hK.out _ _ ⟨(blk_cell B7.out 0).trans rfl, (blk_cell B7.out 1).trans rfl, (blk_cell B7.out 2).trans rfl, (blk_cell OB7.out 4).trans rfl⟩ (fun hHeld => ?_)
    clear hK K
    refine norm_ (a' := ?_) ?_ ?_
    rotate_left
    · show Act.put _ (some 35) _ = _
      simp only [Act.put, List.setIfInBounds_toArray, List.set_cons_zero, List.set_cons_succ, i64_w, i32_w]
      rfl
    refine last_ (i := 7) (N := some 40) #[true, true, true, true, true, true, true, true, false] rfl rfl (one_of HT_.out (by kernel_rfl)) (by decide) (fun K hK => ?_)
    refine goes_ Try.func32 (by kernel_rfl) rfl #[.pointer (some ⟨g, 0, none⟩), .agg #[.bool ov, r1, r2], .int .i64 s.floor] (by rfl) rfl rfl (by (try simp only [List.map_toArray, List.map_cons, List.map_nil]); first | done | rfl | (simp only [List.length_drop, List.length_take]; rfl)) ?_
    refine (make_calls g s r1 r2 ov la lp s.floor _ O7.out F1.out F2.out).mono ?_
    rintro e wv ⟨hres, hM⟩
    have HM := Aside0.mk ((Mut.of_below HB7.out (Nat.le_of_lt Hg)).trans hM)
    clear hM
    by_cases cf : s.floor ≥ 1073741824
    · rw [if_pos cf] at hres
      rw [if_pos cf] at hset
      obtain ⟨rfl, hO⟩ := hres
      have HO8 := Aside0.mk hO
      clear hO
      refine ⟨_, rfl, ?_⟩
      refine hK.out _ _ ?_
      clear hK K
      refine norm_ (a' := ?_) ?_ ?_
      rotate_left
      · show Act.put _ (some 40) _ = _
        simp only [Act.put, List.setIfInBounds_toArray, List.set_cons_zero, List.set_cons_succ, i64_w, i32_w]
        rfl
      refine pz 8 6 HT_ rfl rfl (by kernel_rfl) (fun _ _ _ h => h) (Or.inl ⟨by rfl, by intro w'; go_simp; with_reducible rfl⟩) (by simp only [Act.put, List.setIfInBounds_toArray, List.set_cons_zero, List.set_cons_succ, i64_w, i32_w]; rfl) ?_
      refine done_ (done_of HT_.out (by kernel_rfl)) ?_
      clear HT_ HW_ hHeld
      go_wp2_with fail
      refine bodyPost_ret (results_tmp2 rfl _ _ _) rfl ?_
      try rw [hset]
      exact ⟨rfl, HO8.out, HM.out⟩
    · rw [if_neg cf] at hres
      rw [if_neg cf] at hset
      obtain ⟨rfl, hO⟩ := hres
      have HO8 := Aside0.mk hO
      clear hO
      refine ⟨_, rfl, ?_⟩
      refine hK.out _ _ ?_
      clear hK K
      refine norm_ (a' := ?_) ?_ ?_
      rotate_left
      · show Act.put _ (some 40) _ = _
        simp only [Act.put, List.setIfInBounds_toArray, List.set_cons_zero, List.set_cons_succ, i64_w, i32_w]
        rfl
      refine pz 8 6 HT_ rfl rfl (by kernel_rfl) (fun _ _ _ h => h) (Or.inl ⟨by rfl, by intro w'; go_simp; with_reducible rfl⟩) (by simp only [Act.put, List.setIfInBounds_toArray, List.set_cons_zero, List.set_cons_succ, i64_w, i32_w]; rfl) ?_
      refine done_ (done_of HT_.out (by kernel_rfl)) ?_
      clear HT_ HW_ hHeld
      go_wp2_with fail
      refine bodyPost_ret (results_tmp2 rfl _ _ _) rfl ?_
      try rw [hset]
      exact ⟨rfl, HO8.out, HM.out⟩
  · have HQ' := Aside0.mk (HQ.out hc trivial)
    refine start_ (n := 17) (S := fun w' => w'.cell? ⟨g, 6, none⟩ = some (.bool true) ∧ w'.cell? ⟨b1, 0, none⟩ = some (.bool ov) ∧ w'.cell? ⟨b1, 1, none⟩ = some (.slice A1 la.length c1) ∧ w'.cell? ⟨b1, 2, none⟩ = some (.slice A2 lp.length c2) ∧ w'.cell? ⟨g, 0, none⟩ = some (.bool s.ov) ∧ w'.cell? ⟨g, 1, none⟩ = some (.slice A5 s.adj.length c5) ∧ w'.cell? ⟨g, 2, none⟩ = some (.slice A6 s.pre.length c6)) (ds := []) #[false, false, false, false, false, false, false, false, false, false, false, false, false, false, false, false, false] (by kernel_rfl) rfl rfl ⟨((blk_cell OB3.out 6).trans (by rw [hc]; rfl)), (blk_cell B3.out 0).trans rfl, (blk_cell B3.out 1).trans rfl, (blk_cell B3.out 2).trans rfl, (blk_cell OB3.out 0).trans rfl, (blk_cell OB3.out 1).trans rfl, (blk_cell OB3.out 2).trans rfl⟩ (fun hHeld => ?_); refine with_tabW se.tab5 se.bits5 (fun HT_ HW_ => ?_)
    have OBa := Aside0.mk (blk_drew OB3.out)
    have Ka := Aside0.mk (K1.out.below (below_drew (Below.refl _ _)))
    have Kb := Aside0.mk (K2.out.below (below_drew (Below.refl _ _)))
    have Ba := Aside0.mk (blk_drew B3.out)
    have HBa := Aside0.mk (below_drew1 HB3.out)
    have Pa := Aside0.mk (W1.out.below (below_drew (Below.refl _ _)))
    have Pb := Aside0.mk (W2.out.below (below_drew (Below.refl _ _)))
    generalize wc.drew = wd at OBa Ka Kb Ba HBa Pa Pb hHeld ⊢
    refine pz 0 17 HT_ rfl rfl (by kernel_rfl) (fun _ _ _ h => h) (Or.inl ⟨by rfl, by intro w'; go_simp; with_reducible rfl⟩) (by simp only [Act.put, List.setIfInBounds_toArray, List.set_cons_zero, List.set_cons_succ, i64_w, i32_w]; rfl) ?_
    refine pz 1 18 HT_ rfl rfl (by kernel_rfl) (fun _ _ _ h => h) (Or.inl ⟨by rfl, by intro w'; go_simp; with_reducible rfl⟩) (by simp only [Act.put, List.setIfInBounds_toArray, List.set_cons_zero, List.set_cons_succ, i64_w, i32_w]; rfl) ?_
    refine pz 2 19 HT_ rfl rfl (by kernel_rfl) (fun _ _ _ h => h) (Or.inl ⟨by rfl, by intro w'; go_simp; with_reducible rfl⟩) (by simp only [Act.put, List.setIfInBounds_toArray, List.set_cons_zero, List.set_cons_succ, i64_w, i32_w]; rfl) ?_
    refine tz 3 20 HT_ HW_ rfl rfl (by kernel_rfl) (fun _ _ _ h => h) (Or.inl ⟨by rfl, by rintro w' ⟨s0, s1, s2, s3, s4, s5, s6⟩; go_simp; with_reducible rfl⟩) hHeld (by simp only [Act.put, List.setIfInBounds_toArray, List.set_cons_zero, List.set_cons_succ, i64_w, i32_w]; rfl) ?_
    refine pz 4 21 HT_ rfl rfl (by kernel_rfl) (fun _ _ _ h => h) (Or.inl ⟨by rfl, by intro w'; go_simp; with_reducible rfl⟩) (by simp only [Act.put, List.setIfInBounds_toArray, List.set_cons_zero, List.set_cons_succ, i64_w, i32_w]; rfl) ?_
    refine pz 5 22 HT_ rfl rfl (by kernel_rfl) (fun _ _ _ h => h) (Or.inl ⟨by rfl, by intro w'; go_simp; with_reducible rfl⟩) (by simp only [Act.put, List.setIfInBounds_toArray, List.set_cons_zero, List.set_cons_succ, i64_w, i32_w]; rfl) ?_
    refine pz 8 25 HT_ rfl rfl (by kernel_rfl) (fun _ _ _ h => h) (Or.inl ⟨by rfl, by intro w'; go_simp; with_reducible rfl⟩) (by simp only [Act.put, List.setIfInBounds_toArray, List.set_cons_zero, List.set_cons_succ, i64_w, i32_w]; rfl) ?_
    refine pz 9 26 HT_ rfl rfl (by kernel_rfl) (fun _ _ _ h => h) (Or.inl ⟨by rfl, by intro w'; go_simp; with_reducible rfl⟩) (by simp only [Act.put, List.setIfInBounds_toArray, List.set_cons_zero, List.set_cons_succ, i64_w, i32_w]; rfl) ?_
    refine pz 10 27 HT_ rfl rfl (by kernel_rfl) (fun _ _ _ h => h) (Or.inl ⟨by rfl, by intro w'; go_simp; with_reducible rfl⟩) (by simp only [Act.put, List.setIfInBounds_toArray, List.set_cons_zero, List.set_cons_succ, i64_w, i32_w]; rfl) ?_
    refine pz 11 28 HT_ rfl rfl (by kernel_rfl) (fun _ _ _ h => h) (Or.inl ⟨by rfl, by intro w'; go_simp; with_reducible rfl⟩) (by simp only [Act.put, List.setIfInBounds_toArray, List.set_cons_zero, List.set_cons_succ, i64_w, i32_w]; rfl) ?_
    refine tz 6 23 HT_ HW_ rfl rfl (by kernel_rfl) (fun _ _ _ h => h) (Or.inl ⟨by rfl, by rintro w' ⟨s0, s1, s2, s3, s4, s5, s6⟩; go_simp; with_reducible rfl⟩) hHeld (by simp only [Act.put, List.setIfInBounds_toArray, List.set_cons_zero, List.set_cons_succ, i64_w, i32_w]; rfl) ?_
    refine tz 12 29 HT_ HW_ rfl rfl (by kernel_rfl) (fun _ _ _ h => h) (Or.inl ⟨by rfl, by rintro w' ⟨s0, s1, s2, s3, s4, s5, s6⟩; go_simp; with_reducible rfl⟩) hHeld (by simp only [Act.put, List.setIfInBounds_toArray, List.set_cons_zero, List.set_cons_succ, i64_w, i32_w]; rfl) ?_
    refine one_ (i := 7) (N := some 24) #[true, true, true, true, true, true, true, true, true, true, true, true, true, false, false, false, false] rfl rfl (one_of HT_.out (by kernel_rfl)) (by decide) (fun K hK => ?_)
    refine goes_ Try.func29 (by kernel_rfl) rfl #[.pointer (some ⟨g, 0, none⟩), .agg #[.bool ov, .slice A1 la.length c1, .slice A2 lp.length c2], .int .i64 1] (by rfl) rfl rfl (by (try simp only [List.map_toArray, List.map_cons, List.map_nil]); first | done | rfl | (simp only [List.length_drop, List.length_take]; rfl)) ?_
    refine (with_calls g s _ _ _ _ ov la lp 1 _ OBa.out Pa.out Pb.out hla hlp).mono ?_
    rintro e we ⟨r1, r2, rfl, f1, f2, hb⟩
    refine ⟨_, rfl, ?_⟩
    obtain ⟨A7, c7, rfl, h7, g7⟩ := f1.rd
    obtain ⟨A8, c8, rfl, h8, g8⟩ := f2.rd
    have G7 := Aside0.mk g7
    have G8 := Aside0.mk g8
    have OBc := Aside0.mk (blk_below OBa.out hb)
    have Kc := Aside0.mk (Ka.out.below hb)
    have Kd_ := Aside0.mk (Kb.out.below hb)
    have Bc := Aside0.mk (blk_below Ba.out hb)
    have HBc := Aside0.mk (below_step HBa.out hb)
    have Pc := Aside0.mk (Pa.out.below hb)
    have Pd := Aside0.mk (Pb.out.below hb)
    clear f1 f2 g7 g8 hb OBa Ka Kb Ba HBa Pa Pb
    refine hK.out _ _ ⟨((blk_cell OBc.out 6).trans (by rw [hc]; rfl)), (blk_cell Bc.out 0).trans rfl, (blk_cell Bc.out 1).trans rfl, (blk_cell Bc.out 2).trans rfl, (blk_cell OBc.out 0).trans rfl, (blk_cell OBc.out 1).trans rfl, (blk_cell OBc.out 2).trans rfl⟩ (fun hHeld => ?_)
    clear hK K
    refine norm_ (a' := ?_) ?_ ?_
    rotate_left
    · show Act.put _ (some 24) _ = _
      simp only [Act.put, List.setIfInBounds_toArray, List.set_cons_zero, List.set_cons_succ, i64_w, i32_w]
      rfl
    refine one_ (i := 13) (N := some 30) #[true, true, true, true, true, true, true, true, true, true, true, true, true, true, false, false, false] rfl rfl (one_of HT_.out (by kernel_rfl)) (by decide) (fun K hK => ?_)
    refine goes_ Try.func29 (by kernel_rfl) rfl #[.pointer (some ⟨g, 0, none⟩), .agg #[.bool s.ov, .slice A5 s.adj.length c5, .slice A6 s.pre.length c6], .int .i64 1] (by rfl) rfl rfl (by (try simp only [List.map_toArray, List.map_cons, List.map_nil]); first | done | rfl | (simp only [List.length_drop, List.length_take]; rfl)) ?_
    refine (with_calls g s _ _ _ _ s.ov s.adj s.pre 1 _ OBc.out Kc.out.rd Kd_.out.rd ha hp).mono ?_
    rintro e wf ⟨r1, r2, rfl, f1, f2, hb⟩
    refine ⟨_, rfl, ?_⟩
    obtain ⟨A9, c9, rfl, h9, g9⟩ := f1.rd
    obtain ⟨A0, c0, rfl, h0, g0⟩ := f2.rd
    have G9 := Aside0.mk g9
    have G0 := Aside0.mk g0
    have G7' := Aside0.mk (Kd.C_below G7.out hb)
    have G8' := Aside0.mk (Kd.C_below G8.out hb)
    have OBe := Aside0.mk (blk_below OBc.out hb)
    have Ke := Aside0.mk (Kc.out.below hb)
    have Kf := Aside0.mk (Kd_.out.below hb)
    have Be := Aside0.mk (blk_below Bc.out hb)
    have HBe := Aside0.mk (below_step HBc.out hb)
    have Pe := Aside0.mk (Pc.out.below hb)
    have Pf := Aside0.mk (Pd.out.below hb)
    clear f1 f2 g9 g0 hb OBc Kc Kd_ Bc HBc Pc Pd G7 G8
    refine hK.out _ _ ⟨((blk_cell OBe.out 6).trans (by rw [hc]; rfl)), (blk_cell Be.out 0).trans rfl, (blk_cell Be.out 1).trans rfl, (blk_cell Be.out 2).trans rfl, (blk_cell OBe.out 0).trans rfl, (blk_cell OBe.out 1).trans rfl, (blk_cell OBe.out 2).trans rfl⟩ (fun hHeld => ?_)
    clear hK K
    refine norm_ (a' := ?_) ?_ ?_
    rotate_left
    · show Act.put _ (some 30) _ = _
      simp only [Act.put, List.setIfInBounds_toArray, List.set_cons_zero, List.set_cons_succ, i64_w, i32_w]
      rfl
    refine one_ (i := 14) (N := some 31) #[true, true, true, true, true, true, true, true, true, true, true, true, true, true, true, false, false] rfl rfl (one_of HT_.out (by kernel_rfl)) (by decide) (fun K hK => ?_)
    refine goes_ Try.func31 (by kernel_rfl) rfl #[.agg #[.int .i64 s.node, .int .i64 1, .int .i64 0, .bool ov, .slice A7 la.length c7, .slice A8 lp.length c8], .agg #[.int .i64 s.node, .int .i64 1, .int .i64 0, .bool s.ov, .slice A9 s.adj.length c9, .slice A0 s.pre.length c0]] (by rfl) rfl rfl (by (try simp only [List.map_toArray, List.map_cons, List.map_nil]); first | done | rfl | (simp only [List.length_drop, List.length_take]; rfl)) ?_
    refine (lsa_Same.calls kq s.node 1 0 ov A7 c7 la A8 c8 lp s.node 1 0 s.ov A9 c9 s.adj A0 c0 s.pre q _ G7'.out h7 G8'.out h8 G9.out h9 G0.out h0 HQ'.out).mono ?_
    rintro e wz ⟨rfl, hb⟩
    refine ⟨_, rfl, ?_⟩
    have OBg := Aside0.mk (blk_below OBe.out hb)
    have O5 := Aside0.mk (show Orig wz g s from ⟨_, _, OBg.out, Ke.out.below hb, Kf.out.below hb⟩)
    have B5 := Aside0.mk (blk_below Be.out hb)
    have HB5 := Aside0.mk (below_step HBe.out hb)
    have P1 := Aside0.mk (Pe.out.below hb)
    have P2 := Aside0.mk (Pf.out.below hb)
    clear hb OBe Ke Kf Be HBe Pe Pf G7' G8' G9 G0
    refine hK.out _ _ ⟨((blk_cell OBg.out 6).trans (by rw [hc]; rfl)), (blk_cell B5.out 0).trans rfl, (blk_cell B5.out 1).trans rfl, (blk_cell B5.out 2).trans rfl, (blk_cell OBg.out 0).trans rfl, (blk_cell OBg.out 1).trans rfl, (blk_cell OBg.out 2).trans rfl⟩ (fun hHeld => ?_)
    clear hK K
    refine norm_ (a' := ?_) ?_ ?_
    rotate_left
    · show Act.put _ (some 31) _ = _
      simp only [Act.put, List.setIfInBounds_toArray, List.set_cons_zero, List.set_cons_succ, i64_w, i32_w]
      rfl
    refine pz 15 32 HT_ rfl rfl (by kernel_rfl) (fun _ _ _ h => h) (Or.inl ⟨by rfl, by intro w'; go_simp; with_reducible rfl⟩) (by simp only [Act.put, List.setIfInBounds_toArray, List.set_cons_zero, List.set_cons_succ, i64_w, i32_w]; rfl) ?_
    refine pz 16 16 HT_ rfl rfl (by kernel_rfl) (fun _ _ _ h => h) (Or.inl ⟨by rfl, by intro w'; go_simp; with_reducible rfl⟩) (by simp only [Act.put, List.setIfInBounds_toArray, List.set_cons_zero, List.set_cons_succ, i64_w, i32_w]; rfl) ?_
    refine done_ (done_of HT_.out (by kernel_rfl)) ?_
    cases q
    rotate_left
    · clear HT_ HW_ hHeld
      go_wp2_with fail
      refine bodyPost_ret (results_tmp2 rfl _ _ _) rfl ?_
      rw [show s.set ov la lp true true = (s, false, 0) by simp [OS.set, hc]]
      exact ⟨rfl, O5.out, Mut.of_below HB5.out (Nat.le_of_lt Hg)⟩
    have hset : s.set ov la lp true false = (if s.floor ≥ 1073741824 then (s, false, 6) else (s.made ov la lp s.floor, true, 0)) := by simp [OS.set]
    clear HT_ HW_ hHeld
    go_wp2_with fail
    obtain ⟨y1, y2, oy, -, -⟩ := O5.out
    have OB5 := Aside0.mk oy
    clear oy
    refine start_ (n := 9) (S := fun w' => w'.cell? ⟨b1, 0, none⟩ = some (.bool ov) ∧ w'.cell? ⟨b1, 1, none⟩ = some (.slice A1 la.length c1) ∧ w'.cell? ⟨b1, 2, none⟩ = some (.slice A2 lp.length c2) ∧ w'.cell? ⟨g, 4, none⟩ = some (.int .i64 s.floor)) (ds := [7]) #[false, false, false, false, false, false, false, false, false] (by kernel_rfl) rfl rfl ⟨(blk_cell B5.out 0).trans rfl, (blk_cell B5.out 1).trans rfl, (blk_cell B5.out 2).trans rfl, (blk_cell OB5.out 4).trans rfl⟩ (fun hHeld => ?_); refine with_tabW se.tab7 se.bits7 (fun HT_ HW_ => ?_)
    have O6 := Aside0.mk (O5.out.below (below_drew (Below.refl _ _)))
    have OB6 := Aside0.mk (blk_drew OB5.out)
    have B6 := Aside0.mk (blk_drew B5.out)
    have HB6 := Aside0.mk (below_drew1 HB5.out)
    have P3 := Aside0.mk (P1.out.below (below_drew (Below.refl _ _)))
    have P4 := Aside0.mk (P2.out.below (below_drew (Below.refl _ _)))
    generalize wz.drew = wy at O6 OB6 B6 HB6 P3 P4 hHeld ⊢
    clear O5 B5 HB5 P1 P2 OB5
    refine pz 0 33 HT_ rfl rfl (by kernel_rfl) (fun _ _ _ h => h) (Or.inl ⟨by rfl, by intro w'; go_simp; with_reducible rfl⟩) (by simp only [Act.put, List.setIfInBounds_toArray, List.set_cons_zero, List.set_cons_succ, i64_w, i32_w]; rfl) ?_
    refine pz 3 36 HT_ rfl rfl (by kernel_rfl) (fun _ _ _ h => h) (Or.inl ⟨by rfl, by intro w'; go_simp; with_reducible rfl⟩) (by simp only [Act.put, List.setIfInBounds_toArray, List.set_cons_zero, List.set_cons_succ, i64_w, i32_w]; rfl) ?_
    refine pz 4 37 HT_ rfl rfl (by kernel_rfl) (fun _ _ _ h => h) (Or.inl ⟨by rfl, by intro w'; go_simp; with_reducible rfl⟩) (by simp only [Act.put, List.setIfInBounds_toArray, List.set_cons_zero, List.set_cons_succ, i64_w, i32_w]; rfl) ?_
    refine pz 5 38 HT_ rfl rfl (by kernel_rfl) (fun _ _ _ h => h) (Or.inl ⟨by rfl, by intro w'; go_simp; with_reducible rfl⟩) (by simp only [Act.put, List.setIfInBounds_toArray, List.set_cons_zero, List.set_cons_succ, i64_w, i32_w]; rfl) ?_
    refine tz 1 34 HT_ HW_ rfl rfl (by kernel_rfl) (fun _ _ _ h => h) (Or.inl ⟨by rfl, by rintro w' ⟨s0, s1, s2, s3⟩; go_simp; with_reducible rfl⟩) hHeld (by simp only [Act.put, List.setIfInBounds_toArray, List.set_cons_zero, List.set_cons_succ, i64_w, i32_w]; rfl) ?_
    refine tz 6 39 HT_ HW_ rfl rfl (by kernel_rfl) (fun _ _ _ h => h) (Or.inl ⟨by rfl, by rintro w' ⟨s0, s1, s2, s3⟩; go_simp; with_reducible rfl⟩) hHeld (by simp only [Act.put, List.setIfInBounds_toArray, List.set_cons_zero, List.set_cons_succ, i64_w, i32_w]; rfl) ?_
    refine one_ (i := 2) (N := some 35) #[true, true, true, true, true, true, true, false, false] rfl rfl (one_of HT_.out (by kernel_rfl)) (by decide) (fun K hK => ?_)
    refine goes_ Try.func33 (by kernel_rfl) rfl #[.agg #[.bool ov, .slice A1 la.length c1, .slice A2 lp.length c2]] (by rfl) rfl rfl (by (try simp only [List.map_toArray, List.map_cons, List.map_nil]); first | done | rfl | (simp only [List.length_drop, List.length_take]; rfl)) ?_
    refine (origin_clone.calls ov A1 c1 la A2 c2 lp ov la lp _ P3.out.C.2 P3.out.C.1 P4.out.C.2 P4.out.C.1 (clone_some ov la lp hla hlp)).mono ?_
    rintro e wx ⟨r1, r2, rfl, hr1, hr2, hb⟩
    refine ⟨_, rfl, ?_⟩
    have hgy : g < wy.heap.size := blk_lt OB6.out
    have F1 := Aside0.mk ((FkA.of_R (S := (· < wy.heap.size)) hr1 (fun k hk => hk)).ft (g := g) hgy (fun k h => Nat.lt_of_lt_of_le (O6.out.zb k h) hb.size) (fun k h => O6.out.zb k h))
    have F2 := Aside0.mk ((FkP.of_R (S := (· < wy.heap.size)) hr2 (fun k hk => hk)).ft (g := g) hgy (fun k h => Nat.lt_of_lt_of_le (O6.out.zb k h) hb.size) (fun k h => O6.out.zb k h))
    have O7 := Aside0.mk (O6.out.below hb)
    have OB7 := Aside0.mk (blk_below OB6.out hb)
    have B7 := Aside0.mk (blk_below B6.out hb)
    have HB7 := Aside0.mk (below_step HB6.out hb)
    clear hr1 hr2 hb
    refine hK.out _ _ ⟨(blk_cell B7.out 0).trans rfl, (blk_cell B7.out 1).trans rfl, (blk_cell B7.out 2).trans rfl, (blk_cell OB7.out 4).trans rfl⟩ (fun hHeld => ?_)
    clear hK K
    refine norm_ (a' := ?_) ?_ ?_
    rotate_left
    · show Act.put _ (some 35) _ = _
      simp only [Act.put, List.setIfInBounds_toArray, List.set_cons_zero, List.set_cons_succ, i64_w, i32_w]
      rfl
    refine last_ (i := 7) (N := some 40) #[true, true, true, true, true, true, true, true, false] rfl rfl (one_of HT_.out (by kernel_rfl)) (by decide) (fun K hK => ?_)
    refine goes_ Try.func32 (by kernel_rfl) rfl #[.pointer (some ⟨g, 0, none⟩), .agg #[.bool ov, r1, r2], .int .i64 s.floor] (by rfl) rfl rfl (by (try simp only [List.map_toArray, List.map_cons, List.map_nil]); first | done | rfl | (simp only [List.length_drop, List.length_take]; rfl)) ?_
    refine (make_calls g s r1 r2 ov la lp s.floor _ O7.out F1.out F2.out).mono ?_
    rintro e wv ⟨hres, hM⟩
    have HM := Aside0.mk ((Mut.of_below HB7.out (Nat.le_of_lt Hg)).trans hM)
    clear hM
    by_cases cf : s.floor ≥ 1073741824
    · rw [if_pos cf] at hres
      rw [if_pos cf] at hset
      obtain ⟨rfl, hO⟩ := hres
      have HO8 := Aside0.mk hO
      clear hO
      refine ⟨_, rfl, ?_⟩
      refine hK.out _ _ ?_
      clear hK K
      refine norm_ (a' := ?_) ?_ ?_
      rotate_left
      · show Act.put _ (some 40) _ = _
        simp only [Act.put, List.setIfInBounds_toArray, List.set_cons_zero, List.set_cons_succ, i64_w, i32_w]
        rfl
      refine pz 8 6 HT_ rfl rfl (by kernel_rfl) (fun _ _ _ h => h) (Or.inl ⟨by rfl, by intro w'; go_simp; with_reducible rfl⟩) (by simp only [Act.put, List.setIfInBounds_toArray, List.set_cons_zero, List.set_cons_succ, i64_w, i32_w]; rfl) ?_
      refine done_ (done_of HT_.out (by kernel_rfl)) ?_
      clear HT_ HW_ hHeld
      go_wp2_with fail
      refine bodyPost_ret (results_tmp2 rfl _ _ _) rfl ?_
      try rw [hset]
      exact ⟨rfl, HO8.out, HM.out⟩
    · rw [if_neg cf] at hres
      rw [if_neg cf] at hset
      obtain ⟨rfl, hO⟩ := hres
      have HO8 := Aside0.mk hO
      clear hO
      refine ⟨_, rfl, ?_⟩
      refine hK.out _ _ ?_
      clear hK K
      refine norm_ (a' := ?_) ?_ ?_
      rotate_left
      · show Act.put _ (some 40) _ = _
        simp only [Act.put, List.setIfInBounds_toArray, List.set_cons_zero, List.set_cons_succ, i64_w, i32_w]
        rfl
      refine pz 8 6 HT_ rfl rfl (by kernel_rfl) (fun _ _ _ h => h) (Or.inl ⟨by rfl, by intro w'; go_simp; with_reducible rfl⟩) (by simp only [Act.put, List.setIfInBounds_toArray, List.set_cons_zero, List.set_cons_succ, i64_w, i32_w]; rfl) ?_
      refine done_ (done_of HT_.out (by kernel_rfl)) ?_
      clear HT_ HW_ hHeld
      go_wp2_with fail
      refine bodyPost_ret (results_tmp2 rfl _ _ _) rfl ?_
      try rw [hset]
      exact ⟨rfl, HO8.out, HM.out⟩
end Go.Proofs.Ytdkfhlfojleejaa.HLsc
