/-
  origin: Hear, by hand.
-/
import Derived.Test.YtdkfhlfojleejaaOrgD
namespace Go.Proofs.Ytdkfhlfojleejaa.HLsc
open Go.RowKit Go.Proofs.YtdkfhlfojleejaaW.PrintWords Go.Proofs.YtdkfhlfojleejaaW.PrintLast Go.Proofs.YtdkfhlfojleejaaW.PrintMore
attribute [local go_sem] gtr_str leq_str max2_int min2_int max_two min_two max_three min_three max_four min_four
set_option linter.unusedVariables false
set_option linter.unusedSimpArgs false
set_option linter.unusedSectionVars false
variable [ZZ]
def OS.hear (s : OS) (a0 a1 : Int) (v : Bool) (n : Int) : OS × Bool × Int :=
  if v = false then (s, false, 1) else if ¬ a0 = s.node then (s, false, 1) else if s.cur = false then ({ s with floor := mx s.floor a1 }, false, 0)
  else if n ≤ 0 then (s, false, 0) else if a1 ≥ 1073741824 then (s, false, 6) else (s.made s.ov s.adj s.pre a1, true, 0)
def he.T3 : Bool × List (List Nat × List Nat) := (true, [([], []), ([0], [0]), ([1], [1]), ([2, 1], [2]), ([3], [3]), ([4, 3], [3, 4]), ([3], [3]), ([6, 3], [3, 6]), ([7, 3], [3, 7]), ([8, 3], [3, 8]), ([5, 9, 3], [3, 5, 9]), ([3, 10], [3, 10])])
def he.B3 : List Nat := [0, 1, 3, 7, 15, 31, 15, 79, 207, 463, 1023, 2047]
theorem he.tab3 : rtab .any (opsOf Try.f18 3) = he.T3 := by kernel_rfl
theorem he.bits3 : waitsOk he.T3.2 he.B3 = true := by kernel_rfl
def he.T7 : Bool × List (List Nat × List Nat) := (true, [([], []), ([], []), ([1], [1]), ([2], [2]), ([3], [3]), ([], []), ([5], [5]), ([4, 6], [4, 6]), ([0, 0, 1, 2, 3, 4, 5, 6, 7], [0]), ([8, 0, 1, 2, 3, 4, 5, 6, 7], [8]), ([9, 7, 0, 1, 2, 3, 4, 5, 6, 7], [7, 9])])
def he.B7 : List Nat := [0, 0, 2, 6, 14, 0, 32, 126, 255, 511, 1023]
theorem he.tab7 : rtab .any (opsOf Try.f18 7) = he.T7 := by kernel_rfl
theorem he.bits7 : waitsOk he.T7.2 he.B7 = true := by kernel_rfl
def he.T11 : Bool × List (List Nat × List Nat) := (true, [([], []), ([], []), ([1], [1]), ([2], [2]), ([3], [3]), ([], []), ([5], [5]), ([0, 4, 6], [0, 4, 6]), ([7, 7, 0, 1, 2, 3, 4, 5, 6, 7], [7])])
def he.B11 : List Nat := [0, 0, 2, 6, 14, 0, 32, 127, 255]
theorem he.tab11 : rtab .any (opsOf Try.f18 11) = he.T11 := by kernel_rfl
theorem he.bits11 : waitsOk he.T11.2 he.B11 = true := by kernel_rfl
set_option maxHeartbeats 8000000 in
set_option maxRecDepth 100000 in
theorem hear_calls (g : Nat) (s : OS) (a0 a1 a2 : Int) (a3 : Bool) (v1 v2 : Value) (la : List S72) (lp : List S76) (v : Bool) (n : Int) (kv kn : Nat) (w : World) (hO : Orig w g s) (h1 : RdA w v1 la) (h2 : RdP w v2 lp)
    (ha : s.adj.length < 1000000000) (hp : s.pre.length < 1000000000)
    (hv : lsa_Valid.f kv a0 a1 a2 a3 la lp = some v) (hn : v = true → a0 = s.node → s.cur = true → lsa_Newer.f kn a0 a1 a2 a3 la lp s.node s.floor s.age s.ov s.adj s.pre = some n) :
    Calls Try.prog 18 #[.pointer (some ⟨g, 0, none⟩), LSAv a0 a1 a2 a3 v1 v2] w fun e w' => e = .returned (.tuple #[.bool (s.hear a0 a1 v n).2.1, .int .i64 (s.hear a0 a1 v n).2.2]) ∧ Orig w' g (s.hear a0 a1 v n).1 ∧ Mut g w w' := by
  have hu := Try.underlying49
  have hu2 := Try.underlying32
  have HO := Aside0.mk hO
  have X1 := Aside0.mk h1
  have X2 := Aside0.mk h2
  obtain ⟨A1, c1, rfl, -, -⟩ := h1
  obtain ⟨A2, c2, rfl, -, -⟩ := h2
  have HV := Aside0.mk hv
  have HN := Aside0.mk hn
  clear hO hv hn
  have Hg : g < w.heap.size := by obtain ⟨_, _, h, _⟩ := HO.out; exact blk_lt h
  dsimp only [LSAv]
  go_enter Try.func18, Try.ntmps18
  go_wp2_with (
    first
    | ((with_reducible refine gate_dst (N := 3) rfl ?_); refine box_event ?hg (N := 3) ?hd (cs := #[.int .i64 a0, .int .i64 a1, .int .i64 a2, .bool a3, .slice A1 la.length c1, .slice A2 lp.length c2]) (t := 32) ?hr ?_; (case hd => rfl); (case hg => rfl); (case hr => first | (go_simp; done) | (go_simp; rfl)); intro b1 hg wa hbox hb; have O1 := Aside0.mk (HO.out.below hb); have B1 := Aside0.mk hbox; have HB1 := Aside0.mk hb; have Y1 := Aside0.mk (X1.out.below hb); have Y2 := Aside0.mk (X2.out.below hb); obtain ⟨u1, u2, ob, -, -⟩ := O1.out; have OB1 := Aside0.mk ob; clear ob; clear hbox hb hg))
  refine start_ (n := 12) (S := fun w' => w'.cell? ⟨b1, 0, none⟩ = some (.int .i64 a0) ∧ w'.cell? ⟨b1, 1, none⟩ = some (.int .i64 a1) ∧ w'.cell? ⟨b1, 2, none⟩ = some (.int .i64 a2) ∧ w'.cell? ⟨b1, 3, none⟩ = some (.bool a3) ∧ w'.cell? ⟨b1, 4, none⟩ = some (.slice A1 la.length c1) ∧ w'.cell? ⟨b1, 5, none⟩ = some (.slice A2 lp.length c2) ∧ w'.cell? ⟨g, 3, none⟩ = some (.int .i64 s.node)) (ds := []) #[false, false, false, false, false, false, false, false, false, false, false, false] (by kernel_rfl) rfl rfl ⟨(blk_cell B1.out 0).trans rfl, (blk_cell B1.out 1).trans rfl, (blk_cell B1.out 2).trans rfl, (blk_cell B1.out 3).trans rfl, (blk_cell B1.out 4).trans rfl, (blk_cell B1.out 5).trans rfl, (blk_cell OB1.out 3).trans rfl⟩ (fun hHeld => ?_); refine with_tabW he.tab3 he.bits3 (fun HT_ HW_ => ?_)
  have Oa := Aside0.mk (O1.out.below (below_drew (Below.refl _ _)))
  have OBa := Aside0.mk (blk_drew OB1.out)
  have Ba := Aside0.mk (blk_drew B1.out)
  have HBa := Aside0.mk (below_drew1 HB1.out)
  have Pa := Aside0.mk (Y1.out.below (below_drew (Below.refl _ _)))
  have Pb := Aside0.mk (Y2.out.below (below_drew (Below.refl _ _)))
  generalize wa.drew = wb at Oa OBa Ba HBa Pa Pb hHeld ⊢
  clear O1 OB1 B1 HB1 Y1 Y2
  refine tz 0 11 HT_ HW_ rfl rfl (by kernel_rfl) (fun _ _ _ h => h) (Or.inl ⟨by rfl, by rintro w' ⟨s0, s1, s2, s3, s4, s5, s6⟩; go_simp; with_reducible rfl⟩) hHeld (by simp only [Act.put, List.setIfInBounds_toArray, List.set_cons_zero, List.set_cons_succ, i64_w, i32_w]; rfl) ?_
  refine one_ (i := 1) (N := some 12) #[true, true, false, false, false, false, false, false, false, false, false, false] rfl rfl (one_of HT_.out (by kernel_rfl)) (by decide) (fun K hK => ?_)
  refine goes_ Try.func20 (by kernel_rfl) rfl #[.agg #[.int .i64 a0, .int .i64 a1, .int .i64 a2, .bool a3, .slice A1 la.length c1, .slice A2 lp.length c2]] (by rfl) rfl rfl (by (try simp only [List.map_toArray, List.map_cons, List.map_nil]); first | done | rfl | (simp only [List.length_drop, List.length_take]; rfl)) ?_
  refine (lsa_Valid.calls kv a0 a1 a2 a3 A1 c1 la A2 c2 lp v _ Pa.out.C.2 Pa.out.C.1 Pb.out.C.2 Pb.out.C.1 HV.out).mono ?_
  rintro e wc ⟨rfl, hb⟩
  refine ⟨_, rfl, ?_⟩
  have O1 := Aside0.mk (Oa.out.below hb)
  have OB1 := Aside0.mk (blk_below OBa.out hb)
  have B1 := Aside0.mk (blk_below Ba.out hb)
  have HB1 := Aside0.mk (below_step HBa.out hb)
  have Y1 := Aside0.mk (Pa.out.below hb)
  have Y2 := Aside0.mk (Pb.out.below hb)
  clear hb Oa OBa Ba HBa Pa Pb
  refine hK.out _ _ ⟨(blk_cell B1.out 0).trans rfl, (blk_cell B1.out 1).trans rfl, (blk_cell B1.out 2).trans rfl, (blk_cell B1.out 3).trans rfl, (blk_cell B1.out 4).trans rfl, (blk_cell B1.out 5).trans rfl, (blk_cell OB1.out 3).trans rfl⟩ (fun hHeld => ?_)
  clear hK K
  refine norm_ (a' := ?_) ?_ ?_
  rotate_left
  · show Act.put _ (some 12) _ = _
    simp only [Act.put, List.setIfInBounds_toArray, List.set_cons_zero, List.set_cons_succ, i64_w, i32_w]
    rfl
  cases v
  · refine pz 2 13 HT_ rfl rfl (by kernel_rfl) (fun _ _ _ h => h) (Or.inl ⟨by rfl, by intro w'; go_simp; with_reducible rfl⟩) (by simp only [Act.put, List.setIfInBounds_toArray, List.set_cons_zero, List.set_cons_succ, i64_w, i32_w]; rfl) ?_
    refine pz 3 14 HT_ rfl rfl (by kernel_rfl) (fun _ _ _ h => h) (Or.inl ⟨by rfl, by intro w'; go_simp; with_reducible rfl⟩) (by simp only [Act.put, List.setIfInBounds_toArray, List.set_cons_zero, List.set_cons_succ, i64_w, i32_w]; rfl) ?_
    refine pz (v := undef) 4 15 HT_ rfl rfl (by kernel_rfl) (fun _ _ _ h => h) (Or.inr ⟨by rfl, rfl⟩) (by simp only [Act.put, List.setIfInBounds_toArray, List.set_cons_zero, List.set_cons_succ, i64_w, i32_w]; rfl) ?_
    refine pz (v := undef) 5 16 HT_ rfl rfl (by kernel_rfl) (fun _ _ _ h => h) (Or.inr ⟨by rfl, rfl⟩) (by simp only [Act.put, List.setIfInBounds_toArray, List.set_cons_zero, List.set_cons_succ, i64_w, i32_w]; rfl) ?_
    refine pz (v := undef) 6 17 HT_ rfl rfl (by kernel_rfl) (fun _ _ _ h => h) (Or.inr ⟨by rfl, rfl⟩) (by simp only [Act.put, List.setIfInBounds_toArray, List.set_cons_zero, List.set_cons_succ, i64_w, i32_w]; rfl) ?_
    refine pz (v := undef) 7 18 HT_ rfl rfl (by kernel_rfl) (fun _ _ _ h => h) (Or.inr ⟨by rfl, rfl⟩) (by simp only [Act.put, List.setIfInBounds_toArray, List.set_cons_zero, List.set_cons_succ, i64_w, i32_w]; rfl) ?_
    refine pz (v := undef) 8 19 HT_ rfl rfl (by kernel_rfl) (fun _ _ _ h => h) (Or.inr ⟨by rfl, rfl⟩) (by simp only [Act.put, List.setIfInBounds_toArray, List.set_cons_zero, List.set_cons_succ, i64_w, i32_w]; rfl) ?_
    refine pz (v := undef) 9 20 HT_ rfl rfl (by kernel_rfl) (fun _ _ _ h => h) (Or.inr ⟨by rfl, rfl⟩) (by simp only [Act.put, List.setIfInBounds_toArray, List.set_cons_zero, List.set_cons_succ, i64_w, i32_w]; rfl) ?_
    refine pz (v := undef) 10 21 HT_ rfl rfl (by kernel_rfl) (fun _ _ _ h => h) (Or.inr ⟨by rfl, rfl⟩) (by simp only [Act.put, List.setIfInBounds_toArray, List.set_cons_zero, List.set_cons_succ, i64_w, i32_w]; rfl) ?_
    refine pz 11 22 HT_ rfl rfl (by kernel_rfl) (fun _ _ _ h => h) (Or.inl ⟨by rfl, by intro w'; go_simp; with_reducible rfl⟩) (by simp only [Act.put, List.setIfInBounds_toArray, List.set_cons_zero, List.set_cons_succ, i64_w, i32_w]; rfl) ?_
    refine done_ (done_of HT_.out (by kernel_rfl)) ?_
    clear HT_ HW_ hHeld
    go_wp2_with fail
    refine bodyPost_ret (results_tmp2 rfl _ _ _) rfl ?_
    exact ⟨rfl, O1.out, Mut.of_below HB1.out (Nat.le_of_lt Hg)⟩
  refine pz 2 13 HT_ rfl rfl (by kernel_rfl) (fun _ _ _ h => h) (Or.inl ⟨by rfl, by intro w'; go_simp; with_reducible rfl⟩) (by simp only [Act.put, List.setIfInBounds_toArray, List.set_cons_zero, List.set_cons_succ, i64_w, i32_w]; rfl) ?_
  refine pz 3 14 HT_ rfl rfl (by kernel_rfl) (fun _ _ _ h => h) (Or.inl ⟨by rfl, by intro w'; go_simp; with_reducible rfl⟩) (by simp only [Act.put, List.setIfInBounds_toArray, List.set_cons_zero, List.set_cons_succ, i64_w, i32_w]; rfl) ?_
  refine pz 4 15 HT_ rfl rfl (by kernel_rfl) (fun _ _ _ h => h) (Or.inl ⟨by rfl, by intro w'; go_simp; with_reducible rfl⟩) (by simp only [Act.put, List.setIfInBounds_toArray, List.set_cons_zero, List.set_cons_succ, i64_w, i32_w]; rfl) ?_
  refine pz 6 17 HT_ rfl rfl (by kernel_rfl) (fun _ _ _ h => h) (Or.inl ⟨by rfl, by intro w'; go_simp; with_reducible rfl⟩) (by simp only [Act.put, List.setIfInBounds_toArray, List.set_cons_zero, List.set_cons_succ, i64_w, i32_w]; rfl) ?_
  refine pz 7 18 HT_ rfl rfl (by kernel_rfl) (fun _ _ _ h => h) (Or.inl ⟨by rfl, by intro w'; go_simp; with_reducible rfl⟩) (by simp only [Act.put, List.setIfInBounds_toArray, List.set_cons_zero, List.set_cons_succ, i64_w, i32_w]; rfl) ?_
  refine pz 8 19 HT_ rfl rfl (by kernel_rfl) (fun _ _ _ h => h) (Or.inl ⟨by rfl, by intro w'; go_simp; with_reducible rfl⟩) (by simp only [Act.put, List.setIfInBounds_toArray, List.set_cons_zero, List.set_cons_succ, i64_w, i32_w]; rfl) ?_
  refine tz 5 16 HT_ HW_ rfl rfl (by kernel_rfl) (fun _ _ _ h => h) (Or.inl ⟨by rfl, by rintro w' ⟨s0, s1, s2, s3, s4, s5, s6⟩; go_simp; with_reducible rfl⟩) hHeld (by simp only [Act.put, List.setIfInBounds_toArray, List.set_cons_zero, List.set_cons_succ, i64_w, i32_w]; rfl) ?_
  refine tz 9 20 HT_ HW_ rfl rfl (by kernel_rfl) (fun _ _ _ h => h) (Or.inl ⟨by rfl, by rintro w' ⟨s0, s1, s2, s3, s4, s5, s6⟩; go_simp; with_reducible rfl⟩) hHeld (by simp only [Act.put, List.setIfInBounds_toArray, List.set_cons_zero, List.set_cons_succ, i64_w, i32_w]; rfl) ?_
  refine pz 10 21 HT_ rfl rfl (by kernel_rfl) (fun _ _ _ h => h) (Or.inl ⟨by rfl, by intro w'; go_simp; with_reducible rfl⟩) (by simp only [Act.put, List.setIfInBounds_toArray, List.set_cons_zero, List.set_cons_succ, i64_w, i32_w]; rfl) ?_
  refine pz 11 22 HT_ rfl rfl (by kernel_rfl) (fun _ _ _ h => h) (Or.inl ⟨by rfl, by intro w'; go_simp; with_reducible rfl⟩) (by simp only [Act.put, List.setIfInBounds_toArray, List.set_cons_zero, List.set_cons_succ, i64_w, i32_w]; rfl) ?_
  refine done_ (done_of HT_.out (by kernel_rfl)) ?_
  clear HT_ HW_ hHeld
  by_cases e : a0 = s.node
  rotate_left
  · have e1 : (a0 == s.node) = false := by simpa using e
    have e2 : decide (a0 = s.node) = false := by simpa using e
    have hh : s.hear a0 a1 true n = (s, false, 1) := by simp [OS.hear, e]
    go_wp2_with fail
    refine bodyPost_ret (results_tmp2 rfl _ _ _) rfl ?_
    try rw [hh]
    exact ⟨rfl, O1.out, Mut.of_below HB1.out (Nat.le_of_lt Hg)⟩
  subst e
  rcases hc : s.cur with _ | _
  · have hh : s.hear s.node a1 true n = ({ s with floor := mx s.floor a1 }, false, 0) := by simp [OS.hear, hc]
    have C1 := Aside0.mk hh
    clear hh
    go_wp2_with (
      first
      | ((with_reducible refine gate_callee (f := 12) rfl ?_); refine goesL_ (some 25) rfl rfl Try.func12 (by kernel_rfl) rfl #[.pointer (some ⟨g, 0, none⟩)] rfl (by (try simp only [List.map_toArray, List.map_cons, List.map_nil]); first | done | rfl | (simp only [List.length_drop, List.length_take]; rfl)) ?_; refine (current_none g s _ O1.out hc).mono ?_; rintro e wd ⟨rfl, hb⟩; refine ⟨_, rfl, ?_⟩; have O2 := Aside0.mk (O1.out.below hb); have OB2 := Aside0.mk (blk_below OB1.out hb); have B2 := Aside0.mk (blk_below B1.out hb); have HB2 := Aside0.mk (below_step HB1.out hb); clear hb)
      | ((with_reducible refine gate_dst (N := 6) rfl ?_); refine box_event ?hg (N := 6) ?hd (cs := #[.int .i64 0, .int .i64 0, .int .i64 0, .bool false, .slice none 0 0, .slice none 0 0]) (t := 32) ?hr ?_; (case hd => rfl); (case hg => rfl); (case hr => first | (go_simp; done) | (go_simp; rfl)); intro b6 hg we hbox hb; have B6 := Aside0.mk hbox; have HF := Aside0.mk (below_set (below_set (below_set (below_set (below_set (below_set hb (Nat.le_of_eq hg.symm) (j := 0) (v := .int .i64 0)) (Nat.le_of_eq hg.symm) (j := 1) (v := .int .i64 0)) (Nat.le_of_eq hg.symm) (j := 2) (v := .int .i64 0)) (Nat.le_of_eq hg.symm) (j := 3) (v := .bool false)) (Nat.le_of_eq hg.symm) (j := 4) (v := .slice none 0 0)) (Nat.le_of_eq hg.symm) (j := 5) (v := .slice none 0 0)); have x0 : we.cell? ⟨b6, 0, none⟩ = some (.int .i64 0) := (blk_cell B6.out 0).trans rfl; have xf0 := blk_frozen B6.out 0; have x1 : we.cell? ⟨b6, 1, none⟩ = some (.int .i64 0) := (blk_cell B6.out 1).trans rfl; have xf1 := blk_frozen B6.out 1; have x2 : we.cell? ⟨b6, 2, none⟩ = some (.int .i64 0) := (blk_cell B6.out 2).trans rfl; have xf2 := blk_frozen B6.out 2; have x3 : we.cell? ⟨b6, 3, none⟩ = some (.bool false) := (blk_cell B6.out 3).trans rfl; have xf3 := blk_frozen B6.out 3; have x4 : we.cell? ⟨b6, 4, none⟩ = some (.slice none 0 0) := (blk_cell B6.out 4).trans rfl; have xf4 := blk_frozen B6.out 4; have x5 : we.cell? ⟨b6, 5, none⟩ = some (.slice none 0 0) := (blk_cell B6.out 5).trans rfl; have xf5 := blk_frozen B6.out 5; clear hbox hb hg))
    have O4 := Aside0.mk (O2.out.below HF.out)
    have OB4 := Aside0.mk (blk_below OB2.out HF.out)
    have B4 := Aside0.mk (blk_below B2.out HF.out)
    have HB4 := Aside0.mk (below_step HB2.out HF.out)
    clear O1 OB1 B1 HB1 Y1 Y2 O2 OB2 B2 HB2 B6 HF x0 x1 x2 x3 x4 x5 xf0 xf1 xf2 xf3 xf4 xf5
    generalize ((((((we.setCell ⟨b6, 0, none⟩ (.int .i64 0)).setCell ⟨b6, 1, none⟩ (.int .i64 0)).setCell ⟨b6, 2, none⟩ (.int .i64 0)).setCell ⟨b6, 3, none⟩ (.bool false)).setCell ⟨b6, 4, none⟩ (.slice none 0 0)).setCell ⟨b6, 5, none⟩ (.slice none 0 0)) = wf at O4 OB4 B4 HB4 ⊢
    refine start_ (n := 11) (S := fun w' => w'.cell? ⟨g, 4, none⟩ = some (.int .i64 s.floor) ∧ w'.cell? ⟨b1, 1, none⟩ = some (.int .i64 a1)) (ds := [10]) #[false, false, false, false, false, false, false, false, false, false, false] (by kernel_rfl) rfl rfl ⟨(blk_cell OB4.out 4).trans rfl, (blk_cell B4.out 1).trans rfl⟩ (fun hHeld => ?_); refine with_tabW he.tab7 he.bits7 (fun HT_ HW_ => ?_)
    have O5 := Aside0.mk (O4.out.below (below_drew (Below.refl _ _)))
    have HB5 := Aside0.mk (below_drew1 HB4.out)
    generalize wf.drew = wg at O5 HB5 hHeld ⊢
    clear O4 OB4 B4 HB4
    refine pz 0 30 HT_ rfl rfl (by kernel_rfl) (fun _ _ _ h => h) (Or.inl ⟨by rfl, by intro w'; go_simp; with_reducible rfl⟩) (by simp only [Act.put, List.setIfInBounds_toArray, List.set_cons_zero, List.set_cons_succ, i64_w, i32_w]; rfl) ?_
    refine pz 1 31 HT_ rfl rfl (by kernel_rfl) (fun _ _ _ h => h) (Or.inl ⟨by rfl, by intro w'; go_simp; with_reducible rfl⟩) (by simp only [Act.put, List.setIfInBounds_toArray, List.set_cons_zero, List.set_cons_succ, i64_w, i32_w]; rfl) ?_
    refine pz 2 32 HT_ rfl rfl (by kernel_rfl) (fun _ _ _ h => h) (Or.inl ⟨by rfl, by intro w'; go_simp; with_reducible rfl⟩) (by simp only [Act.put, List.setIfInBounds_toArray, List.set_cons_zero, List.set_cons_succ, i64_w, i32_w]; rfl) ?_
    refine pz 3 33 HT_ rfl rfl (by kernel_rfl) (fun _ _ _ h => h) (Or.inl ⟨by rfl, by intro w'; go_simp; with_reducible rfl⟩) (by simp only [Act.put, List.setIfInBounds_toArray, List.set_cons_zero, List.set_cons_succ, i64_w, i32_w]; rfl) ?_
    refine pz 5 35 HT_ rfl rfl (by kernel_rfl) (fun _ _ _ h => h) (Or.inl ⟨by rfl, by intro w'; go_simp; with_reducible rfl⟩) (by simp only [Act.put, List.setIfInBounds_toArray, List.set_cons_zero, List.set_cons_succ, i64_w, i32_w]; rfl) ?_
    refine tz 4 34 HT_ HW_ rfl rfl (by kernel_rfl) (fun _ _ _ h => h) (Or.inl ⟨by rfl, by rintro w' ⟨s0, s1⟩; go_simp; with_reducible rfl⟩) hHeld (by simp only [Act.put, List.setIfInBounds_toArray, List.set_cons_zero, List.set_cons_succ, i64_w, i32_w]; rfl) ?_
    refine tz 6 36 HT_ HW_ rfl rfl (by kernel_rfl) (fun _ _ _ h => h) (Or.inl ⟨by rfl, by rintro w' ⟨s0, s1⟩; go_simp; with_reducible rfl⟩) hHeld (by simp only [Act.put, List.setIfInBounds_toArray, List.set_cons_zero, List.set_cons_succ, i64_w, i32_w]; rfl) ?_
    have hmx : (if s.floor < a1 then a1 else s.floor) = mx s.floor a1 := rfl
    refine pz 7 37 HT_ rfl rfl (by kernel_rfl) (fun _ _ _ h => h) (Or.inl ⟨by rfl, by intro w'; go_simp; with_reducible rfl⟩) (by simp only [Act.put, List.setIfInBounds_toArray, List.set_cons_zero, List.set_cons_succ, i64_w, i32_w]; rfl) ?_
    refine pz 8 38 HT_ rfl rfl (by kernel_rfl) (fun _ _ _ h => h) (Or.inl ⟨by rfl, by intro w'; go_simp; with_reducible rfl⟩) (by simp only [Act.put, List.setIfInBounds_toArray, List.set_cons_zero, List.set_cons_succ, i64_w, i32_w]; rfl) ?_
    refine pz 9 39 HT_ rfl rfl (by kernel_rfl) (fun _ _ _ h => h) (Or.inl ⟨by rfl, by intro w'; go_simp; with_reducible rfl⟩) (by simp only [Act.put, List.setIfInBounds_toArray, List.set_cons_zero, List.set_cons_succ, i64_w, i32_w]; rfl) ?_
    refine last_ (i := 10) (N := none) #[true, true, true, true, true, true, true, true, true, true, true] rfl rfl (one_of HT_.out (by kernel_rfl)) (by decide) (fun K hK => ?_)
    obtain ⟨y1, y2, oy, k1, k2⟩ := O5.out
    have zf := blk_frozen oy 4
    have O6 := (blk_put (cs' := #[.bool s.ov, y1, y2, .int .i64 s.node, .int .i64 (mx s.floor a1), .int .i64 s.age, .bool s.cur]) oy 4 (.int .i64 (mx s.floor a1)) rfl)
    have M6 := (Mut.of_below HB5.out (Nat.le_of_lt Hg)).trans ⟨(Below.setCell (Below.refl g wg) (p := ⟨g, 4, none⟩) (Nat.le_refl g) (.int .i64 (mx s.floor a1))), (KeepBut.set_ (KeepBut.refl wg g none) 4 (.int .i64 (mx s.floor a1)))⟩
    have O7 := Aside0.mk (show Orig _ g { s with floor := mx s.floor a1 } from ⟨y1, y2, O6, k1.keep (KeepBut.set_ (KeepBut.refl wg g none) 4 (.int .i64 (mx s.floor a1))), k2.keep (KeepBut.set_ (KeepBut.refl wg g none) 4 (.int .i64 (mx s.floor a1)))⟩)
    have M7 := Aside0.mk M6
    clear O6 k1 k2 oy M6
    refine skip_ (w1 := ?_) (by rfl) rfl ?_ ?_
    rotate_left
    · go_simp
      rfl
    refine hK.out _ _ ?_
    clear hK K
    refine done_ (done_of HT_.out (by kernel_rfl)) ?_
    clear HT_ HW_ hHeld
    go_wp2_with fail
    refine bodyPost_ret (results_tmp2 rfl _ _ _) rfl ?_
    rw [C1.out]
    exact ⟨rfl, O7.out, M7.out⟩
  have HN' := Aside0.mk (HN.out rfl rfl hc)
  have hh : s.hear s.node a1 true n = (if n ≤ 0 then (s, false, 0) else if a1 ≥ 1073741824 then (s, false, 6) else (s.made s.ov s.adj s.pre a1, true, 0)) := by simp [OS.hear, hc]
  have C1 := Aside0.mk hh
  clear hh
  have hd : ∃ b : Bool, decide (n ≤ 0) = b := ⟨_, rfl⟩
  obtain ⟨bn, qn⟩ := hd
  cases bn
  · go_wp2_with (
      first
      | ((with_reducible refine gate_callee (f := 12) rfl ?_); refine goesL_ (some 25) rfl rfl Try.func12 (by kernel_rfl) rfl #[.pointer (some ⟨g, 0, none⟩)] rfl (by (try simp only [List.map_toArray, List.map_cons, List.map_nil]); first | done | rfl | (simp only [List.length_drop, List.length_take]; rfl)) ?_; refine (current_calls g s _ O1.out ha hp hc).mono ?_; rintro e wd ⟨r1, r2, rfl, f1, f2, hb⟩; refine ⟨_, rfl, ?_⟩; have O2 := Aside0.mk (O1.out.below hb); have OB2 := Aside0.mk (blk_below OB1.out hb); have B2 := Aside0.mk (blk_below B1.out hb); have HB2 := Aside0.mk (below_step HB1.out hb); have P1 := Aside0.mk (Y1.out.below hb); have P2 := Aside0.mk (Y2.out.below hb); have F1 := Aside0.mk f1; have F2 := Aside0.mk f2; obtain ⟨A7, c7, rfl, -, -⟩ := f1; obtain ⟨A8, c8, rfl, -, -⟩ := f2; dsimp only [LSAv]; clear hb)
      | ((with_reducible refine gate_dst (N := 6) rfl ?_); refine box_event ?hg (N := 6) ?hd (cs := #[.int .i64 0, .int .i64 0, .int .i64 0, .bool false, .slice none 0 0, .slice none 0 0]) (t := 32) ?hr ?_; (case hd => rfl); (case hg => rfl); (case hr => first | (go_simp; done) | (go_simp; rfl)); intro b6 hg we hbox hb; have B6 := Aside0.mk hbox; have HF := Aside0.mk (below_set (below_set (below_set (below_set (below_set (below_set hb (Nat.le_of_eq hg.symm) (j := 0) (v := .int .i64 s.node)) (Nat.le_of_eq hg.symm) (j := 1) (v := .int .i64 s.floor)) (Nat.le_of_eq hg.symm) (j := 2) (v := .int .i64 s.age)) (Nat.le_of_eq hg.symm) (j := 3) (v := .bool s.ov)) (Nat.le_of_eq hg.symm) (j := 4) (v := .slice A7 s.adj.length c7)) (Nat.le_of_eq hg.symm) (j := 5) (v := .slice A8 s.pre.length c8)); have x0 : we.cell? ⟨b6, 0, none⟩ = some (.int .i64 0) := (blk_cell B6.out 0).trans rfl; have xf0 := blk_frozen B6.out 0; have x1 : we.cell? ⟨b6, 1, none⟩ = some (.int .i64 0) := (blk_cell B6.out 1).trans rfl; have xf1 := blk_frozen B6.out 1; have x2 : we.cell? ⟨b6, 2, none⟩ = some (.int .i64 0) := (blk_cell B6.out 2).trans rfl; have xf2 := blk_frozen B6.out 2; have x3 : we.cell? ⟨b6, 3, none⟩ = some (.bool false) := (blk_cell B6.out 3).trans rfl; have xf3 := blk_frozen B6.out 3; have x4 : we.cell? ⟨b6, 4, none⟩ = some (.slice none 0 0) := (blk_cell B6.out 4).trans rfl; have xf4 := blk_frozen B6.out 4; have x5 : we.cell? ⟨b6, 5, none⟩ = some (.slice none 0 0) := (blk_cell B6.out 5).trans rfl; have xf5 := blk_frozen B6.out 5; have B3 := Aside0.mk (blk_below B2.out hb); have N1 : b1 ≠ b6 := (by rw [hg]; exact Nat.ne_of_lt (blk_lt B2.out)); have N1' := N1.symm; have y0 : we.cell? ⟨b1, 0, none⟩ = some (.int .i64 s.node) := (blk_cell B3.out 0).trans rfl; have yf0 := blk_frozen B3.out 0; have y1 : we.cell? ⟨b1, 1, none⟩ = some (.int .i64 a1) := (blk_cell B3.out 1).trans rfl; have yf1 := blk_frozen B3.out 1; have y2 : we.cell? ⟨b1, 2, none⟩ = some (.int .i64 a2) := (blk_cell B3.out 2).trans rfl; have yf2 := blk_frozen B3.out 2; have y3 : we.cell? ⟨b1, 3, none⟩ = some (.bool a3) := (blk_cell B3.out 3).trans rfl; have yf3 := blk_frozen B3.out 3; have y4 : we.cell? ⟨b1, 4, none⟩ = some (.slice A1 la.length c1) := (blk_cell B3.out 4).trans rfl; have yf4 := blk_frozen B3.out 4; have y5 : we.cell? ⟨b1, 5, none⟩ = some (.slice A2 lp.length c2) := (blk_cell B3.out 5).trans rfl; have yf5 := blk_frozen B3.out 5; clear hbox hb hg)
      | ((with_reducible refine gate_callee (f := 21) rfl ?_); refine goesL_ (some 42) rfl rfl Try.func21 (by kernel_rfl) rfl #[.agg #[.int .i64 s.node, .int .i64 a1, .int .i64 a2, .bool a3, .slice A1 la.length c1, .slice A2 lp.length c2], .agg #[.int .i64 s.node, .int .i64 s.floor, .int .i64 s.age, .bool s.ov, .slice A7 s.adj.length c7, .slice A8 s.pre.length c8]] rfl (by (try simp only [List.map_toArray, List.map_cons, List.map_nil]); first | done | rfl | (simp only [List.length_drop, List.length_take]; rfl)) ?_; refine (lsa_Newer.calls kn s.node a1 a2 a3 A1 c1 la A2 c2 lp s.node s.floor s.age s.ov A7 c7 s.adj A8 c8 s.pre n _ (P1.out.below HF.out).C.2 (P1.out.below HF.out).C.1 (P2.out.below HF.out).C.2 (P2.out.below HF.out).C.1 (F1.out.below HF.out).C.2 (F1.out.below HF.out).C.1 (F2.out.below HF.out).C.2 (F2.out.below HF.out).C.1 HN'.out).mono ?_; rintro e wg ⟨rfl, hb⟩; refine ⟨_, rfl, ?_⟩; have hb2 := Aside0.mk (below_step HF.out hb); have O4 := Aside0.mk (O2.out.below hb2.out); have OB4 := Aside0.mk (blk_below OB2.out hb2.out); have B4 := Aside0.mk (blk_below B2.out hb2.out); have HB4 := Aside0.mk (below_step HB2.out hb2.out); clear hb))
    have hset : s.hear s.node a1 true n = (if a1 ≥ 1073741824 then (s, false, 6) else (s.made s.ov s.adj s.pre a1, true, 0)) := C1.out.trans (if_neg (of_decide_eq_false qn))
    obtain ⟨z1, z2, oz, k1, k2⟩ := O4.out
    have K1 := Aside0.mk k1
    have K2 := Aside0.mk k2
    obtain ⟨-, A3, c3, rfl, -, -⟩ := k1
    obtain ⟨-, A4, c4, rfl, -, -⟩ := k2
    have OBz := Aside0.mk oz
    clear oz
    refine start_ (n := 9) (S := fun w' => w'.cell? ⟨g, 0, none⟩ = some (.bool s.ov) ∧ w'.cell? ⟨g, 1, none⟩ = some (.slice A3 s.adj.length c3) ∧ w'.cell? ⟨g, 2, none⟩ = some (.slice A4 s.pre.length c4) ∧ w'.cell? ⟨b1, 1, none⟩ = some (.int .i64 a1)) (ds := [7]) #[false, false, false, false, false, false, false, false, false] (by kernel_rfl) rfl rfl ⟨(blk_cell OBz.out 0).trans rfl, (blk_cell OBz.out 1).trans rfl, (blk_cell OBz.out 2).trans rfl, (blk_cell B4.out 1).trans rfl⟩ (fun hHeld => ?_); refine with_tabW he.tab11 he.bits11 (fun HT_ HW_ => ?_)
    have O5 := Aside0.mk (O4.out.below (below_drew (Below.refl _ _)))
    have Kz := Aside0.mk (K1.out.below (below_drew (Below.refl _ _)))
    have Ky := Aside0.mk (K2.out.below (below_drew (Below.refl _ _)))
    have HB5 := Aside0.mk (below_drew1 HB4.out)
    generalize wg.drew = wh at O5 Kz Ky HB5 hHeld ⊢
    refine pz 0 44 HT_ rfl rfl (by kernel_rfl) (fun _ _ _ h => h) (Or.inl ⟨by rfl, by intro w'; go_simp; with_reducible rfl⟩) (by simp only [Act.put, List.setIfInBounds_toArray, List.set_cons_zero, List.set_cons_succ, i64_w, i32_w]; rfl) ?_
    refine pz 1 45 HT_ rfl rfl (by kernel_rfl) (fun _ _ _ h => h) (Or.inl ⟨by rfl, by intro w'; go_simp; with_reducible rfl⟩) (by simp only [Act.put, List.setIfInBounds_toArray, List.set_cons_zero, List.set_cons_succ, i64_w, i32_w]; rfl) ?_
    refine pz 2 46 HT_ rfl rfl (by kernel_rfl) (fun _ _ _ h => h) (Or.inl ⟨by rfl, by intro w'; go_simp; with_reducible rfl⟩) (by simp only [Act.put, List.setIfInBounds_toArray, List.set_cons_zero, List.set_cons_succ, i64_w, i32_w]; rfl) ?_
    refine pz 3 47 HT_ rfl rfl (by kernel_rfl) (fun _ _ _ h => h) (Or.inl ⟨by rfl, by intro w'; go_simp; with_reducible rfl⟩) (by simp only [Act.put, List.setIfInBounds_toArray, List.set_cons_zero, List.set_cons_succ, i64_w, i32_w]; rfl) ?_
    refine pz 5 49 HT_ rfl rfl (by kernel_rfl) (fun _ _ _ h => h) (Or.inl ⟨by rfl, by intro w'; go_simp; with_reducible rfl⟩) (by simp only [Act.put, List.setIfInBounds_toArray, List.set_cons_zero, List.set_cons_succ, i64_w, i32_w]; rfl) ?_
    refine tz 4 48 HT_ HW_ rfl rfl (by kernel_rfl) (fun _ _ _ h => h) (Or.inl ⟨by rfl, by rintro w' ⟨s0, s1, s2, s3⟩; go_simp; with_reducible rfl⟩) hHeld (by simp only [Act.put, List.setIfInBounds_toArray, List.set_cons_zero, List.set_cons_succ, i64_w, i32_w]; rfl) ?_
    refine tz 6 50 HT_ HW_ rfl rfl (by kernel_rfl) (fun _ _ _ h => h) (Or.inl ⟨by rfl, by rintro w' ⟨s0, s1, s2, s3⟩; go_simp; with_reducible rfl⟩) hHeld (by simp only [Act.put, List.setIfInBounds_toArray, List.set_cons_zero, List.set_cons_succ, i64_w, i32_w]; rfl) ?_
    refine last_ (i := 7) (N := some 51) #[true, true, true, true, true, true, true, true, false] rfl rfl (one_of HT_.out (by kernel_rfl)) (by decide) (fun K hK => ?_)
    refine goes_ Try.func32 (by kernel_rfl) rfl #[.pointer (some ⟨g, 0, none⟩), .agg #[.bool s.ov, .slice A3 s.adj.length c3, .slice A4 s.pre.length c4], .int .i64 a1] (by rfl) rfl rfl (by (try simp only [List.map_toArray, List.map_cons, List.map_nil]); first | done | rfl | (simp only [List.length_drop, List.length_take]; rfl)) ?_
    refine (make_calls g s _ _ s.ov s.adj s.pre a1 _ O5.out Kz.out Ky.out).mono ?_
    rintro e wv ⟨hres, hM⟩
    have HM := Aside0.mk ((Mut.of_below HB5.out (Nat.le_of_lt Hg)).trans hM)
    clear hM
    by_cases cf : a1 ≥ 1073741824
    · rw [if_pos cf] at hres
      rw [if_pos cf] at hset
      have HS := Aside0.mk hset
      clear hset
      obtain ⟨rfl, hO⟩ := hres
      have HO8 := Aside0.mk hO
      clear hO
      refine ⟨_, rfl, ?_⟩
      refine hK.out _ _ ?_
      clear hK K
      refine norm_ (a' := ?_) ?_ ?_
      rotate_left
      · show Act.put _ (some 51) _ = _
        simp only [Act.put, List.setIfInBounds_toArray, List.set_cons_zero, List.set_cons_succ, i64_w, i32_w]
        rfl
      refine pz 8 8 HT_ rfl rfl (by kernel_rfl) (fun _ _ _ h => h) (Or.inl ⟨by rfl, by intro w'; go_simp; with_reducible rfl⟩) (by simp only [Act.put, List.setIfInBounds_toArray, List.set_cons_zero, List.set_cons_succ, i64_w, i32_w]; rfl) ?_
      refine done_ (done_of HT_.out (by kernel_rfl)) ?_
      clear HT_ HW_ hHeld
      go_wp2_with fail
      refine bodyPost_ret (results_tmp2 rfl _ _ _) rfl ?_
      rw [HS.out]
      exact ⟨rfl, HO8.out, HM.out⟩
    · rw [if_neg cf] at hres
      rw [if_neg cf] at hset
      have HS := Aside0.mk hset
      clear hset
      obtain ⟨rfl, hO⟩ := hres
      have HO8 := Aside0.mk hO
      clear hO
      refine ⟨_, rfl, ?_⟩
      refine hK.out _ _ ?_
      clear hK K
      refine norm_ (a' := ?_) ?_ ?_
      rotate_left
      · show Act.put _ (some 51) _ = _
        simp only [Act.put, List.setIfInBounds_toArray, List.set_cons_zero, List.set_cons_succ, i64_w, i32_w]
        rfl
      refine pz 8 8 HT_ rfl rfl (by kernel_rfl) (fun _ _ _ h => h) (Or.inl ⟨by rfl, by intro w'; go_simp; with_reducible rfl⟩) (by simp only [Act.put, List.setIfInBounds_toArray, List.set_cons_zero, List.set_cons_succ, i64_w, i32_w]; rfl) ?_
      refine done_ (done_of HT_.out (by kernel_rfl)) ?_
      clear HT_ HW_ hHeld
      go_wp2_with fail
      refine bodyPost_ret (results_tmp2 rfl _ _ _) rfl ?_
      rw [HS.out]
      exact ⟨rfl, HO8.out, HM.out⟩
  · go_wp2_with (
      first
      | ((with_reducible refine gate_callee (f := 12) rfl ?_); refine goesL_ (some 25) rfl rfl Try.func12 (by kernel_rfl) rfl #[.pointer (some ⟨g, 0, none⟩)] rfl (by (try simp only [List.map_toArray, List.map_cons, List.map_nil]); first | done | rfl | (simp only [List.length_drop, List.length_take]; rfl)) ?_; refine (current_calls g s _ O1.out ha hp hc).mono ?_; rintro e wd ⟨r1, r2, rfl, f1, f2, hb⟩; refine ⟨_, rfl, ?_⟩; have O2 := Aside0.mk (O1.out.below hb); have OB2 := Aside0.mk (blk_below OB1.out hb); have B2 := Aside0.mk (blk_below B1.out hb); have HB2 := Aside0.mk (below_step HB1.out hb); have P1 := Aside0.mk (Y1.out.below hb); have P2 := Aside0.mk (Y2.out.below hb); have F1 := Aside0.mk f1; have F2 := Aside0.mk f2; obtain ⟨A7, c7, rfl, -, -⟩ := f1; obtain ⟨A8, c8, rfl, -, -⟩ := f2; dsimp only [LSAv]; clear hb)
      | ((with_reducible refine gate_dst (N := 6) rfl ?_); refine box_event ?hg (N := 6) ?hd (cs := #[.int .i64 0, .int .i64 0, .int .i64 0, .bool false, .slice none 0 0, .slice none 0 0]) (t := 32) ?hr ?_; (case hd => rfl); (case hg => rfl); (case hr => first | (go_simp; done) | (go_simp; rfl)); intro b6 hg we hbox hb; have B6 := Aside0.mk hbox; have HF := Aside0.mk (below_set (below_set (below_set (below_set (below_set (below_set hb (Nat.le_of_eq hg.symm) (j := 0) (v := .int .i64 s.node)) (Nat.le_of_eq hg.symm) (j := 1) (v := .int .i64 s.floor)) (Nat.le_of_eq hg.symm) (j := 2) (v := .int .i64 s.age)) (Nat.le_of_eq hg.symm) (j := 3) (v := .bool s.ov)) (Nat.le_of_eq hg.symm) (j := 4) (v := .slice A7 s.adj.length c7)) (Nat.le_of_eq hg.symm) (j := 5) (v := .slice A8 s.pre.length c8)); have x0 : we.cell? ⟨b6, 0, none⟩ = some (.int .i64 0) := (blk_cell B6.out 0).trans rfl; have xf0 := blk_frozen B6.out 0; have x1 : we.cell? ⟨b6, 1, none⟩ = some (.int .i64 0) := (blk_cell B6.out 1).trans rfl; have xf1 := blk_frozen B6.out 1; have x2 : we.cell? ⟨b6, 2, none⟩ = some (.int .i64 0) := (blk_cell B6.out 2).trans rfl; have xf2 := blk_frozen B6.out 2; have x3 : we.cell? ⟨b6, 3, none⟩ = some (.bool false) := (blk_cell B6.out 3).trans rfl; have xf3 := blk_frozen B6.out 3; have x4 : we.cell? ⟨b6, 4, none⟩ = some (.slice none 0 0) := (blk_cell B6.out 4).trans rfl; have xf4 := blk_frozen B6.out 4; have x5 : we.cell? ⟨b6, 5, none⟩ = some (.slice none 0 0) := (blk_cell B6.out 5).trans rfl; have xf5 := blk_frozen B6.out 5; have B3 := Aside0.mk (blk_below B2.out hb); have N1 : b1 ≠ b6 := (by rw [hg]; exact Nat.ne_of_lt (blk_lt B2.out)); have N1' := N1.symm; have y0 : we.cell? ⟨b1, 0, none⟩ = some (.int .i64 s.node) := (blk_cell B3.out 0).trans rfl; have yf0 := blk_frozen B3.out 0; have y1 : we.cell? ⟨b1, 1, none⟩ = some (.int .i64 a1) := (blk_cell B3.out 1).trans rfl; have yf1 := blk_frozen B3.out 1; have y2 : we.cell? ⟨b1, 2, none⟩ = some (.int .i64 a2) := (blk_cell B3.out 2).trans rfl; have yf2 := blk_frozen B3.out 2; have y3 : we.cell? ⟨b1, 3, none⟩ = some (.bool a3) := (blk_cell B3.out 3).trans rfl; have yf3 := blk_frozen B3.out 3; have y4 : we.cell? ⟨b1, 4, none⟩ = some (.slice A1 la.length c1) := (blk_cell B3.out 4).trans rfl; have yf4 := blk_frozen B3.out 4; have y5 : we.cell? ⟨b1, 5, none⟩ = some (.slice A2 lp.length c2) := (blk_cell B3.out 5).trans rfl; have yf5 := blk_frozen B3.out 5; clear hbox hb hg)
      | ((with_reducible refine gate_callee (f := 21) rfl ?_); refine goesL_ (some 42) rfl rfl Try.func21 (by kernel_rfl) rfl #[.agg #[.int .i64 s.node, .int .i64 a1, .int .i64 a2, .bool a3, .slice A1 la.length c1, .slice A2 lp.length c2], .agg #[.int .i64 s.node, .int .i64 s.floor, .int .i64 s.age, .bool s.ov, .slice A7 s.adj.length c7, .slice A8 s.pre.length c8]] rfl (by (try simp only [List.map_toArray, List.map_cons, List.map_nil]); first | done | rfl | (simp only [List.length_drop, List.length_take]; rfl)) ?_; refine (lsa_Newer.calls kn s.node a1 a2 a3 A1 c1 la A2 c2 lp s.node s.floor s.age s.ov A7 c7 s.adj A8 c8 s.pre n _ (P1.out.below HF.out).C.2 (P1.out.below HF.out).C.1 (P2.out.below HF.out).C.2 (P2.out.below HF.out).C.1 (F1.out.below HF.out).C.2 (F1.out.below HF.out).C.1 (F2.out.below HF.out).C.2 (F2.out.below HF.out).C.1 HN'.out).mono ?_; rintro e wg ⟨rfl, hb⟩; refine ⟨_, rfl, ?_⟩; have hb2 := Aside0.mk (below_step HF.out hb); have O4 := Aside0.mk (O2.out.below hb2.out); have OB4 := Aside0.mk (blk_below OB2.out hb2.out); have B4 := Aside0.mk (blk_below B2.out hb2.out); have HB4 := Aside0.mk (below_step HB2.out hb2.out); clear hb))
    refine bodyPost_ret (results_tmp2 rfl _ _ _) rfl ?_
    rw [C1.out, if_pos (of_decide_eq_true qn)]
    exact ⟨rfl, O4.out, Mut.of_below HB4.out (Nat.le_of_lt Hg)⟩
end Go.Proofs.Ytdkfhlfojleejaa.HLsc
