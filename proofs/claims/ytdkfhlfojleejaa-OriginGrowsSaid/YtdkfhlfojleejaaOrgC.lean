/-
  origin: Current, by hand.
-/
import Derived.Test.YtdkfhlfojleejaaOrgA
namespace Go.Proofs.Ytdkfhlfojleejaa.HLsc
open Go.RowKit Go.Proofs.YtdkfhlfojleejaaW.PrintWords Go.Proofs.YtdkfhlfojleejaaW.PrintLast Go.Proofs.YtdkfhlfojleejaaW.PrintMore
attribute [local go_sem] gtr_str leq_str max2_int min2_int max_two min_two max_three min_three max_four min_four
set_option linter.unusedVariables false
set_option linter.unusedSimpArgs false
set_option linter.unusedSectionVars false
variable [ZZ]
def OS.made (s : OS) (ov : Bool) (la : List S72) (lp : List S76) (fl : Int) : OS := { s with ov := ov, adj := la, pre := lp, floor := wrap64 (fl + 1), age := 0, cur := true }
set_option maxHeartbeats 8000000 in
set_option maxRecDepth 100000 in
theorem make_calls (g : Nat) (s : OS) (v1 v2 : Value) (ov : Bool) (la : List S72) (lp : List S76) (fl : Int) (w : World) (hO : Orig w g s) (h1 : FtA w g v1 la) (h2 : FtP w g v2 lp) :
    Calls Try.prog 32 #[.pointer (some ⟨g, 0, none⟩), .agg #[.bool ov, v1, v2], .int .i64 fl] w fun e w' => (if fl ≥ 1073741824 then e = .returned (.int .i64 6) ∧ Orig w' g s else e = .returned (.int .i64 0) ∧ Orig w' g (s.made ov la lp fl)) ∧ Mut g w w' := by
  have hu := Try.underlying49
  obtain ⟨u1, u2, hO, k1, k2⟩ := hO
  have F1 := Aside0.mk h1
  have F2 := Aside0.mk h2
  have U1 := Aside0.mk k1
  have U2 := Aside0.mk k2
  obtain ⟨-, A1, c1, rfl, -, -⟩ := h1
  obtain ⟨-, A2, c2, rfl, -, -⟩ := h2
  have HO := Aside0.mk hO
  clear hO k1 k2
  by_cases c : fl ≥ 1073741824
  · have cb : decide (fl ≥ 1073741824) = true := decide_eq_true c
    simp only [if_pos c]
    clear c
    go_enter Try.func32, Try.ntmps32
    go_wp2_with (
      first
      | ((with_reducible refine gate_dst (N := 4) rfl ?_); refine box_event ?hg (N := 4) ?hd (cs := #[.bool ov, .slice A1 la.length c1, .slice A2 lp.length c2]) (t := 49) ?hr ?_; (case hd => rfl); (case hg => rfl); (case hr => first | (go_simp; done) | (go_simp; rfl)); intro b1 hg wa hbox hb; have HB := Aside0.mk hb; clear hbox hb hg))
    go_ret
    exact ⟨⟨rfl, _, _, blk_below HO.out HB.out, U1.out.below HB.out, U2.out.below HB.out⟩, Mut.of_below HB.out (Nat.le_of_lt (blk_lt HO.out))⟩
  · have cb : decide (fl ≥ 1073741824) = false := decide_eq_false c
    simp only [if_neg c]
    clear c
    go_enter Try.func32, Try.ntmps32
    go_wp2_with (
      first
      | ((with_reducible refine gate_dst (N := 4) rfl ?_); refine box_event ?hg (N := 4) ?hd (cs := #[.bool ov, .slice A1 la.length c1, .slice A2 lp.length c2]) (t := 49) ?hr ?_; (case hd => rfl); (case hg => rfl); (case hr => first | (go_simp; done) | (go_simp; rfl)); intro b1 hg wa hbox hb; have HB := Aside0.mk hb; have B1 := Aside0.mk hbox; have O1 := Aside0.mk (blk_below HO.out hb); have y0 : wa.cell? ⟨b1, 0, none⟩ = some (.bool ov) := (blk_cell B1.out 0).trans rfl; have yf0 := blk_frozen B1.out 0; have y1 : wa.cell? ⟨b1, 1, none⟩ = some (.slice A1 la.length c1) := (blk_cell B1.out 1).trans rfl; have yf1 := blk_frozen B1.out 1; have y2 : wa.cell? ⟨b1, 2, none⟩ = some (.slice A2 lp.length c2) := (blk_cell B1.out 2).trans rfl; have yf2 := blk_frozen B1.out 2; have z0 : wa.cell? ⟨g, 0, none⟩ = some (.bool s.ov) := (blk_cell O1.out 0).trans rfl; have zf0 := blk_frozen O1.out 0; have z1 : wa.cell? ⟨g, 1, none⟩ = some (u1) := (blk_cell O1.out 1).trans rfl; have zf1 := blk_frozen O1.out 1; have z2 : wa.cell? ⟨g, 2, none⟩ = some (u2) := (blk_cell O1.out 2).trans rfl; have zf2 := blk_frozen O1.out 2; have z3 : wa.cell? ⟨g, 3, none⟩ = some (.int .i64 s.node) := (blk_cell O1.out 3).trans rfl; have zf3 := blk_frozen O1.out 3; have z4 : wa.cell? ⟨g, 4, none⟩ = some (.int .i64 s.floor) := (blk_cell O1.out 4).trans rfl; have zf4 := blk_frozen O1.out 4; have z5 : wa.cell? ⟨g, 5, none⟩ = some (.int .i64 s.age) := (blk_cell O1.out 5).trans rfl; have zf5 := blk_frozen O1.out 5; have z6 : wa.cell? ⟨g, 6, none⟩ = some (.bool s.cur) := (blk_cell O1.out 6).trans rfl; have zf6 := blk_frozen O1.out 6; clear hbox hb hg))
    have O2 := (blk_put (cs' := #[.bool ov, .slice A1 la.length c1, .slice A2 lp.length c2, .int .i64 s.node, .int .i64 (wrap64 (fl + 1)), .int .i64 0, .bool true]) (blk_put (cs' := #[.bool ov, .slice A1 la.length c1, .slice A2 lp.length c2, .int .i64 s.node, .int .i64 (wrap64 (fl + 1)), .int .i64 0, .bool s.cur]) (blk_put (cs' := #[.bool ov, .slice A1 la.length c1, .slice A2 lp.length c2, .int .i64 s.node, .int .i64 (wrap64 (fl + 1)), .int .i64 s.age, .bool s.cur]) (blk_put (cs' := #[.bool ov, .slice A1 la.length c1, .slice A2 lp.length c2, .int .i64 s.node, .int .i64 s.floor, .int .i64 s.age, .bool s.cur]) (blk_put (cs' := #[.bool ov, .slice A1 la.length c1, u2, .int .i64 s.node, .int .i64 s.floor, .int .i64 s.age, .bool s.cur]) (blk_put (cs' := #[.bool ov, u1, u2, .int .i64 s.node, .int .i64 s.floor, .int .i64 s.age, .bool s.cur]) O1.out 0 (.bool ov) rfl) 1 (.slice A1 la.length c1) rfl) 2 (.slice A2 lp.length c2) rfl) 4 (.int .i64 (wrap64 (fl + 1))) rfl) 5 (.int .i64 0) rfl) 6 (.bool true) rfl)
    have HB2 : Below g w ((((((wa.setCell ⟨g, 0, none⟩ (.bool ov)).setCell ⟨g, 1, none⟩ (.slice A1 la.length c1)).setCell ⟨g, 2, none⟩ (.slice A2 lp.length c2)).setCell ⟨g, 4, none⟩ (.int .i64 (wrap64 (fl + 1)))).setCell ⟨g, 5, none⟩ (.int .i64 0)).setCell ⟨g, 6, none⟩ (.bool true)) := (Below.setCell (Below.setCell (Below.setCell (Below.setCell (Below.setCell (Below.setCell (HB.out.mono (Nat.le_of_lt (blk_lt HO.out))) (p := ⟨g, 0, none⟩) (Nat.le_refl g) (.bool ov)) (p := ⟨g, 1, none⟩) (Nat.le_refl g) (.slice A1 la.length c1)) (p := ⟨g, 2, none⟩) (Nat.le_refl g) (.slice A2 lp.length c2)) (p := ⟨g, 4, none⟩) (Nat.le_refl g) (.int .i64 (wrap64 (fl + 1)))) (p := ⟨g, 5, none⟩) (Nat.le_refl g) (.int .i64 0)) (p := ⟨g, 6, none⟩) (Nat.le_refl g) (.bool true))
    have HK2 : KeepBut w ((((((wa.setCell ⟨g, 0, none⟩ (.bool ov)).setCell ⟨g, 1, none⟩ (.slice A1 la.length c1)).setCell ⟨g, 2, none⟩ (.slice A2 lp.length c2)).setCell ⟨g, 4, none⟩ (.int .i64 (wrap64 (fl + 1)))).setCell ⟨g, 5, none⟩ (.int .i64 0)).setCell ⟨g, 6, none⟩ (.bool true)) g none := (KeepBut.of_below HB.out g none).trans (KeepBut.set_ (KeepBut.set_ (KeepBut.set_ (KeepBut.set_ (KeepBut.set_ (KeepBut.set_ (KeepBut.refl wa g none) 0 (.bool ov)) 1 (.slice A1 la.length c1)) 2 (.slice A2 lp.length c2)) 4 (.int .i64 (wrap64 (fl + 1)))) 5 (.int .i64 0)) 6 (.bool true)) (.inl rfl)
    go_ret
    exact ⟨⟨rfl, _, _, O2, F1.out.keep HK2, F2.out.keep HK2⟩, HB2, HK2⟩
set_option maxHeartbeats 8000000 in
set_option maxRecDepth 100000 in
theorem new_calls (n : Int) (w : World) (h0 : 0 ≤ n) (h1 : n ≤ 63) (hz : ∀ k, ZZ.z k → k < w.heap.size) :
    Calls Try.prog 10 #[.int .i64 n] w fun e w' => ∃ g, e = .returned (.tuple #[.pointer (some ⟨g, 0, none⟩), .int .i64 0]) ∧ w.heap.size ≤ g ∧ Orig w' g ⟨false, [], [], n, 0, 0, false⟩ ∧ Below w.heap.size w w' := by
  have c1 : decide (n < 0) = false := decide_eq_false (by omega)
  have c2 : decide (n ≥ 64) = false := decide_eq_false (by omega)
  go_enter Try.func10, Try.ntmps10
  go_wp2_with (
    first
    | ((with_reducible refine gate_dst (N := 12) rfl ?_); refine box_event ?hg (N := 12) ?hd (cs := #[.bool false, .slice none 0 0, .slice none 0 0, .int .i64 n, .int .i64 0, .int .i64 0, .bool false]) (t := 62) ?hr ?_; (case hd => rfl); (case hg => rfl); (case hr => first | (go_simp; done) | (go_simp; rfl)); intro b1 hg wa hbox hb; have HB := Aside0.mk hb; have B1 := Aside0.mk hbox; have G1 := Aside0.mk hg; clear hbox hb hg))
  refine bodyPost_ret (results_tmp2 rfl _ _ _) rfl ?_
  exact ⟨b1, rfl, Nat.le_of_eq G1.out.symm, ⟨_, _, B1.out, ⟨fun k h => Nat.lt_of_lt_of_le (hz k h) HB.out.size, none, 0, rfl, Nat.le_refl _, fun _ _ => Kd.C_nil _ _⟩, ⟨fun k h => Nat.lt_of_lt_of_le (hz k h) HB.out.size, none, 0, rfl, Nat.le_refl _, fun _ _ => Kd.C_nil _ _⟩⟩, HB.out⟩
set_option maxHeartbeats 8000000 in
set_option maxRecDepth 100000 in
theorem new_err (n : Int) (w : World) (h : n < 0 ∨ 63 < n) :
    Calls Try.prog 10 #[.int .i64 n] w fun e w' => e = .returned (.tuple #[.pointer none, .int .i64 2]) ∧ Below w.heap.size w w' := by
  by_cases c : n < 0
  · have c1 : decide (n < 0) = true := decide_eq_true c
    go_enter Try.func10, Try.ntmps10
    go_wp2_with fail
    refine bodyPost_ret (results_tmp2 rfl _ _ _) rfl ?_
    exact ⟨rfl, Below.refl _ _⟩
  · have c1 : decide (n < 0) = false := decide_eq_false c
    have c2 : decide (n ≥ 64) = true := decide_eq_true (by omega)
    clear c
    go_enter Try.func10, Try.ntmps10
    go_wp2_with fail
    refine bodyPost_ret (results_tmp2 rfl _ _ _) rfl ?_
    exact ⟨rfl, Below.refl _ _⟩
set_option maxHeartbeats 8000000 in
set_option maxRecDepth 100000 in
theorem floor_calls (g : Nat) (s : OS) (w : World) (hO : Orig w g s) :
    Calls Try.prog 15 #[.pointer (some ⟨g, 0, none⟩)] w fun e w' => e = .returned (.int .i64 s.floor) ∧ Below w.heap.size w w' := by
  obtain ⟨u1, u2, hO, k1, k2⟩ := hO
  have z4 : w.cell? ⟨g, 4, none⟩ = some (.int .i64 s.floor) := (blk_cell hO 4).trans rfl
  go_enter Try.func15, Try.ntmps15
  go_wp2_with fail
  go_ret
  exact ⟨rfl, Below.refl _ _⟩
set_option maxHeartbeats 8000000 in
set_option maxRecDepth 100000 in
theorem floor_nil (w : World) : Calls Try.prog 15 #[.pointer none] w fun e w' => e = .returned (.int .i64 0) ∧ Below w.heap.size w w' := by
  go_enter Try.func15, Try.ntmps15
  go_wp2_with fail
  go_ret
  exact ⟨rfl, Below.refl _ _⟩
def OS.grow (s : OS) (n : Int) : OS := { s with age := mn 3599 (wrap64 (s.age + mn n 3600)) }
set_option maxHeartbeats 8000000 in
set_option maxRecDepth 100000 in
theorem grow_calls (g : Nat) (s : OS) (n : Int) (u1 u2 : Value) (w : World) (hO : OB w g s u1 u2) :
    Calls Try.prog 34 #[.pointer (some ⟨g, 0, none⟩), .int .i64 n] w fun e w' => e = .returned (.tuple #[]) ∧ OB w' g (s.grow n) u1 u2 ∧ Mut g w w' := by
  have z5 : w.cell? ⟨g, 5, none⟩ = some (.int .i64 s.age) := (blk_cell hO 5).trans rfl
  have zf5 := blk_frozen hO 5
  have HO := Aside0.mk hO
  clear hO
  have hm : (if 3600 < n then 3600 else n) = mn n 3600 := rfl
  have hm2 : (if (wrap64 (s.age + mn n 3600)) < 3599 then (wrap64 (s.age + mn n 3600)) else 3599) = mn 3599 (wrap64 (s.age + mn n 3600)) := rfl
  go_enter Try.func34, Try.ntmps34
  go_wp2_with fail
  have O2 := (blk_put (cs' := #[.bool s.ov, u1, u2, .int .i64 s.node, .int .i64 s.floor, .int .i64 (mn 3599 (wrap64 (s.age + mn n 3600))), .bool s.cur]) HO.out 5 (.int .i64 (mn 3599 (wrap64 (s.age + mn n 3600)))) rfl)
  have HB2 : Below g w (w.setCell ⟨g, 5, none⟩ (.int .i64 (mn 3599 (wrap64 (s.age + mn n 3600))))) := (Below.setCell (Below.refl g w) (p := ⟨g, 5, none⟩) (Nat.le_refl g) (.int .i64 (mn 3599 (wrap64 (s.age + mn n 3600)))))
  go_end0
  exact ⟨rfl, O2, HB2, (KeepBut.set_ (KeepBut.refl w g none) 5 (.int .i64 (mn 3599 (wrap64 (s.age + mn n 3600)))))⟩
def OS.rest (s : OS) : Int := wrap64 (1800 - s.age)
def OS.times (s : OS) (n : Int) : Int := mn (wrap64 ((wrap64 (Int.tdiv (wrap64 (n - s.rest)) 1800)) + 1)) (wrap64 (1073741824 - s.floor))
def OS.tick (s : OS) (n : Int) : OS × Bool :=
  if s.cur = false then (s, false) else if n ≤ 0 then (s, false)
  else if s.rest ≤ 0 then (s.grow n, false) else if n < s.rest then (s.grow n, false) else if s.floor ≥ 1073741824 then (s.grow n, false)
  else ({ s with floor := wrap64 (s.floor + s.times n), age := 0 }.grow (wrap64 (wrap64 (n - s.rest) - wrap64 (wrap64 (s.times n - 1) * 1800))), true)
theorem Orig.of_ob {g : Nat} {s s' : OS} {u1 u2 : Value} {w w' : World} (h : OB w' g s' u1 u2) (k1 : FtA w g u1 s.adj) (k2 : FtP w g u2 s.pre) (hk : KeepBut w w' g none) (e1 : s'.adj = s.adj) (e2 : s'.pre = s.pre) : Orig w' g s' :=
  ⟨u1, u2, h, e1 ▸ k1.keep hk, e2 ▸ k2.keep hk⟩
set_option maxHeartbeats 8000000 in
set_option maxRecDepth 100000 in
theorem tick_calls (g : Nat) (s : OS) (n : Int) (w : World) (hO : Orig w g s) :
    Calls Try.prog 19 #[.pointer (some ⟨g, 0, none⟩), .int .i64 n] w fun e w' => e = .returned (.bool (s.tick n).2) ∧ Orig w' g (s.tick n).1 ∧ Mut g w w' := by
  obtain ⟨u1, u2, hO, k1, k2⟩ := hO
  have U1 := Aside0.mk k1
  have U2 := Aside0.mk k2
  have z4 : w.cell? ⟨g, 4, none⟩ = some (.int .i64 s.floor) := (blk_cell hO 4).trans rfl
  have z5 : w.cell? ⟨g, 5, none⟩ = some (.int .i64 s.age) := (blk_cell hO 5).trans rfl
  have z6 : w.cell? ⟨g, 6, none⟩ = some (.bool s.cur) := (blk_cell hO 6).trans rfl
  have zf4 := blk_frozen hO 4
  have zf5 := blk_frozen hO 5
  have HO := Aside0.mk hO
  have M0 : Mut g w w := ⟨Below.refl _ _, KeepBut.refl _ _ _⟩
  have O0 : Orig w g s := ⟨u1, u2, hO, k1, k2⟩
  have M0 := Aside0.mk M0
  have O0 := Aside0.mk O0
  clear hO k1 k2
  unfold OS.tick
  by_cases c1 : s.cur = false
  · simp only [if_pos c1]
    have q1 : s.cur = false := c1
    go_enter Try.func19, Try.ntmps19
    go_wp2_with fail
    go_ret
    exact ⟨rfl, O0.out, M0.out⟩
  replace c1 : s.cur = true := by simpa using c1
  simp only [if_neg (show ¬ s.cur = false by simp [c1])]
  by_cases c2 : n ≤ 0
  · simp only [if_pos c2]
    have q2 : decide (n ≤ 0) = true := decide_eq_true c2
    clear c2
    go_enter Try.func19, Try.ntmps19
    go_wp2_with fail
    go_ret
    exact ⟨rfl, O0.out, M0.out⟩
  have q2 : decide (n ≤ 0) = false := decide_eq_false c2
  simp only [if_neg c2]
  clear c2
  by_cases c3 : s.rest ≤ 0
  · simp only [if_pos c3]
    have q3 : decide (wrap64 (1800 - s.age) ≤ 0) = true := decide_eq_true c3
    clear c3
    go_enter Try.func19, Try.ntmps19
    go_wp2_with (
      first
      | ((with_reducible refine gate_callee (f := 34) rfl ?_); refine goesL_ (some 41) rfl rfl Try.func34 (by kernel_rfl) rfl #[.pointer (some ⟨g, 0, none⟩), .int .i64 n] rfl (by (try simp only [List.map_toArray, List.map_cons, List.map_nil]); first | done | rfl | (simp only [List.length_drop, List.length_take]; rfl)) ?_; refine (grow_calls g s n u1 u2 _ HO.out).mono ?_; rintro e w1 ⟨rfl, h1, h2⟩; refine ⟨_, rfl, ?_⟩; have H1 := Aside0.mk h1; have H2 := Aside0.mk h2; clear h1 h2))
    go_ret
    exact ⟨rfl, Orig.of_ob H1.out U1.out U2.out H2.out.k rfl rfl, H2.out⟩
  have q3 : decide (wrap64 (1800 - s.age) ≤ 0) = false := decide_eq_false c3
  simp only [if_neg c3]
  clear c3
  by_cases c4 : n < s.rest
  · simp only [if_pos c4]
    have q4 : decide (n < wrap64 (1800 - s.age)) = true := decide_eq_true c4
    clear c4
    go_enter Try.func19, Try.ntmps19
    go_wp2_with (
      first
      | ((with_reducible refine gate_callee (f := 34) rfl ?_); refine goesL_ (some 41) rfl rfl Try.func34 (by kernel_rfl) rfl #[.pointer (some ⟨g, 0, none⟩), .int .i64 n] rfl (by (try simp only [List.map_toArray, List.map_cons, List.map_nil]); first | done | rfl | (simp only [List.length_drop, List.length_take]; rfl)) ?_; refine (grow_calls g s n u1 u2 _ HO.out).mono ?_; rintro e w1 ⟨rfl, h1, h2⟩; refine ⟨_, rfl, ?_⟩; have H1 := Aside0.mk h1; have H2 := Aside0.mk h2; clear h1 h2))
    go_ret
    exact ⟨rfl, Orig.of_ob H1.out U1.out U2.out H2.out.k rfl rfl, H2.out⟩
  have q4 : decide (n < wrap64 (1800 - s.age)) = false := decide_eq_false c4
  simp only [if_neg c4]
  clear c4
  by_cases c5 : s.floor ≥ 1073741824
  · simp only [if_pos c5]
    have q5 : decide (s.floor ≥ 1073741824) = true := decide_eq_true c5
    clear c5
    go_enter Try.func19, Try.ntmps19
    go_wp2_with (
      first
      | ((with_reducible refine gate_callee (f := 34) rfl ?_); refine goesL_ (some 41) rfl rfl Try.func34 (by kernel_rfl) rfl #[.pointer (some ⟨g, 0, none⟩), .int .i64 n] rfl (by (try simp only [List.map_toArray, List.map_cons, List.map_nil]); first | done | rfl | (simp only [List.length_drop, List.length_take]; rfl)) ?_; refine (grow_calls g s n u1 u2 _ HO.out).mono ?_; rintro e w1 ⟨rfl, h1, h2⟩; refine ⟨_, rfl, ?_⟩; have H1 := Aside0.mk h1; have H2 := Aside0.mk h2; clear h1 h2))
    go_ret
    exact ⟨rfl, Orig.of_ob H1.out U1.out U2.out H2.out.k rfl rfl, H2.out⟩
  have q5 : decide (s.floor ≥ 1073741824) = false := decide_eq_false c5
  simp only [if_neg c5]
  clear c5
  have hm : ∀ a b : Int, (if b < a then b else a) = mn a b := fun _ _ => rfl
  have O2 := Aside0.mk (blk_put (cs' := #[.bool s.ov, u1, u2, .int .i64 s.node, .int .i64 (wrap64 (s.floor + (mn (wrap64 ((wrap64 (Int.tdiv (wrap64 (n - wrap64 (1800 - s.age))) 1800)) + 1)) (wrap64 (1073741824 - s.floor))))), .int .i64 0, .bool s.cur]) (blk_put (cs' := #[.bool s.ov, u1, u2, .int .i64 s.node, .int .i64 (wrap64 (s.floor + (mn (wrap64 ((wrap64 (Int.tdiv (wrap64 (n - wrap64 (1800 - s.age))) 1800)) + 1)) (wrap64 (1073741824 - s.floor))))), .int .i64 s.age, .bool s.cur]) HO.out 4 (.int .i64 (wrap64 (s.floor + (mn (wrap64 ((wrap64 (Int.tdiv (wrap64 (n - wrap64 (1800 - s.age))) 1800)) + 1)) (wrap64 (1073741824 - s.floor)))))) rfl) 5 (.int .i64 0) rfl)
  have HB2 := Aside0.mk (show Below g w ((w.setCell ⟨g, 4, none⟩ (.int .i64 (wrap64 (s.floor + (mn (wrap64 ((wrap64 (Int.tdiv (wrap64 (n - wrap64 (1800 - s.age))) 1800)) + 1)) (wrap64 (1073741824 - s.floor))))))).setCell ⟨g, 5, none⟩ (.int .i64 0)) from (Below.setCell (Below.setCell (Below.refl g w) (p := ⟨g, 4, none⟩) (Nat.le_refl g) (.int .i64 (wrap64 (s.floor + (mn (wrap64 ((wrap64 (Int.tdiv (wrap64 (n - wrap64 (1800 - s.age))) 1800)) + 1)) (wrap64 (1073741824 - s.floor))))))) (p := ⟨g, 5, none⟩) (Nat.le_refl g) (.int .i64 0)))
  have HK2 := Aside0.mk (show KeepBut w ((w.setCell ⟨g, 4, none⟩ (.int .i64 (wrap64 (s.floor + (mn (wrap64 ((wrap64 (Int.tdiv (wrap64 (n - wrap64 (1800 - s.age))) 1800)) + 1)) (wrap64 (1073741824 - s.floor))))))).setCell ⟨g, 5, none⟩ (.int .i64 0)) g none from (KeepBut.set_ (KeepBut.set_ (KeepBut.refl w g none) 4 (.int .i64 (wrap64 (s.floor + (mn (wrap64 ((wrap64 (Int.tdiv (wrap64 (n - wrap64 (1800 - s.age))) 1800)) + 1)) (wrap64 (1073741824 - s.floor))))))) 5 (.int .i64 0)))
  go_enter Try.func19, Try.ntmps19
  go_wp2_with (
      first
      | ((with_reducible refine gate_callee (f := 34) rfl ?_); refine goesL_ (some 72) rfl rfl Try.func34 (by kernel_rfl) rfl #[.pointer (some ⟨g, 0, none⟩), .int .i64 (wrap64 (wrap64 (n - s.rest) - wrap64 (wrap64 (s.times n - 1) * 1800)))] rfl (by (try simp only [List.map_toArray, List.map_cons, List.map_nil]); first | done | rfl | (simp only [List.length_drop, List.length_take]; rfl)) ?_; refine (grow_calls g { s with floor := wrap64 (s.floor + s.times n), age := 0 } _ u1 u2 _ O2.out).mono ?_; rintro e w1 ⟨rfl, h1, h2⟩; refine ⟨_, rfl, ?_⟩; have H1 := Aside0.mk h1; have H2 := Aside0.mk h2; clear h1 h2))
  go_ret
  have HK3 : KeepBut w _ g none := HK2.out.trans H2.out.k (.inl rfl)
  exact ⟨rfl, Orig.of_ob H1.out U1.out U2.out HK3 rfl rfl, HB2.out.trans H2.out.b, HK3⟩
theorem tick_nil (n : Int) (w : World) : Calls Try.prog 19 #[.pointer none, .int .i64 n] w fun e w' => e = .returned (.bool false) ∧ Below w.heap.size w w' := by
  go_enter Try.func19, Try.ntmps19
  go_wp2_with fail
  go_ret
  exact ⟨rfl, Below.refl _ _⟩
end Go.Proofs.Ytdkfhlfojleejaa.HLsc
namespace Go.Proofs.Ytdkfhlfojleejaa.HLsc
open Go.RowKit Go.Proofs.YtdkfhlfojleejaaW.PrintWords Go.Proofs.YtdkfhlfojleejaaW.PrintLast Go.Proofs.YtdkfhlfojleejaaW.PrintMore
attribute [local go_sem] gtr_str leq_str max2_int min2_int max_two min_two max_three min_three max_four min_four
set_option linter.unusedVariables false
set_option linter.unusedSimpArgs false
set_option linter.unusedSectionVars false
variable [ZZ]
def cu.T3 : Bool × List (List Nat × List Nat) := (true, [([], []), ([], []), ([1], [1]), ([2], [2]), ([3], [3]), ([], []), ([5], [5]), ([6], [6]), ([7], [7]), ([0, 4, 8], [0, 4, 8]), ([], []), ([10, 9, 9, 0, 1, 2, 3, 4, 5, 6, 7, 8, 9, 10], [9, 10])])
def cu.B3 : List Nat := [0, 0, 2, 6, 14, 0, 32, 96, 224, 511, 0, 2047]
theorem cu.tab3 : rtab .any (opsOf Try.f12 3) = cu.T3 := by kernel_rfl
theorem cu.bits3 : waitsOk cu.T3.2 cu.B3 = true := by kernel_rfl
set_option maxHeartbeats 8000000 in
set_option maxRecDepth 100000 in
theorem current_ft (g : Nat) (s : OS) (w : World) (hO : Orig w g s) (ha : s.adj.length < 1000000000) (hp : s.pre.length < 1000000000) (hc : s.cur = true) :
    Calls Try.prog 12 #[.pointer (some ⟨g, 0, none⟩)] w fun e w' => ∃ r1 r2, e = .returned (.tuple #[LSAv s.node s.floor s.age s.ov r1 r2, .bool true]) ∧ FtA w' g r1 s.adj ∧ FtP w' g r2 s.pre ∧ Below w.heap.size w w' := by
  have hu := Try.underlying49
  have hu2 := Try.underlying32
  have HZB := Aside0.mk hO.zb
  obtain ⟨u1, u2, hO, k1, k2⟩ := hO
  have U1 := Aside0.mk k1
  have U2 := Aside0.mk k2
  obtain ⟨-, A1, c1, rfl, -, -⟩ := k1
  obtain ⟨-, A2, c2, rfl, -, -⟩ := k2
  have z6 : w.cell? ⟨g, 6, none⟩ = some (.bool true) := (blk_cell hO 6).trans (by rw [hc]; rfl)
  have HO := Aside0.mk hO
  clear hO
  go_enter Try.func12, Try.ntmps12
  go_wp2_with (
    first
    | ((with_reducible refine gate_dst (N := 2) rfl ?_); refine box_event ?hg (N := 2) ?hd (cs := #[.int .i64 0, .int .i64 0, .int .i64 0, .bool false, .slice none 0 0, .slice none 0 0]) (t := 32) ?hr ?_; (case hd => rfl); (case hg => rfl); (case hr => first | (go_simp; done) | (go_simp; rfl)); intro b2 hg wa hbox hb; have O1 := Aside0.mk (blk_below HO.out hb); have B2 := Aside0.mk hbox; have G2 := Aside0.mk hg; have HB := Aside0.mk hb; have z6a : wa.cell? ⟨g, 6, none⟩ = some (.bool true) := (blk_cell O1.out 6).trans (by rw [hc]; rfl); have V1 := Aside0.mk (U1.out.rd.below hb); have V2 := Aside0.mk (U2.out.rd.below hb); clear hbox hb hg))
  refine start_ (n := 12) (S := fun w' => w'.cell? ⟨g, 0, none⟩ = some (.bool s.ov) ∧ w'.cell? ⟨g, 1, none⟩ = some (.slice A1 s.adj.length c1) ∧ w'.cell? ⟨g, 2, none⟩ = some (.slice A2 s.pre.length c2) ∧ w'.cell? ⟨g, 4, none⟩ = some (.int .i64 s.floor)) (ds := []) #[false, false, false, false, false, false, false, false, false, false, false, false] (by kernel_rfl) rfl rfl ⟨(blk_cell O1.out 0).trans rfl, (blk_cell O1.out 1).trans rfl, (blk_cell O1.out 2).trans rfl, (blk_cell O1.out 4).trans rfl⟩ (fun hHeld => ?_); refine with_tabW cu.tab3 cu.bits3 (fun HT_ HW_ => ?_)
  have gb2 : g ≠ b2 := Nat.ne_of_lt (by have := blk_lt HO.out; have := G2.out; omega)
  replace O1 := Aside0.mk (blk_drew O1.out)
  replace B2 := Aside0.mk (blk_drew B2.out)
  replace HB := Aside0.mk (below_drew1 HB.out)
  replace V1 := Aside0.mk (V1.out.below (below_drew (Below.refl _ _)))
  replace V2 := Aside0.mk (V2.out.below (below_drew (Below.refl _ _)))
  clear z6 z6a
  generalize wa.drew = wb at O1 B2 HB V1 V2 hHeld ⊢
  refine pz 0 15 HT_ rfl rfl (by kernel_rfl) (fun _ _ _ h => h) (Or.inl ⟨by rfl, by intro w'; go_simp; with_reducible rfl⟩) (by simp only [Act.put, List.setIfInBounds_toArray, List.set_cons_zero, List.set_cons_succ, i64_w, i32_w]; rfl) ?_
  refine pz 1 16 HT_ rfl rfl (by kernel_rfl) (fun _ _ _ h => h) (Or.inl ⟨by rfl, by intro w'; go_simp; with_reducible rfl⟩) (by simp only [Act.put, List.setIfInBounds_toArray, List.set_cons_zero, List.set_cons_succ, i64_w, i32_w]; rfl) ?_
  refine pz 2 17 HT_ rfl rfl (by kernel_rfl) (fun _ _ _ h => h) (Or.inl ⟨by rfl, by intro w'; go_simp; with_reducible rfl⟩) (by simp only [Act.put, List.setIfInBounds_toArray, List.set_cons_zero, List.set_cons_succ, i64_w, i32_w]; rfl) ?_
  refine pz 3 18 HT_ rfl rfl (by kernel_rfl) (fun _ _ _ h => h) (Or.inl ⟨by rfl, by intro w'; go_simp; with_reducible rfl⟩) (by simp only [Act.put, List.setIfInBounds_toArray, List.set_cons_zero, List.set_cons_succ, i64_w, i32_w]; rfl) ?_
  refine pz 5 20 HT_ rfl rfl (by kernel_rfl) (fun _ _ _ h => h) (Or.inl ⟨by rfl, by intro w'; go_simp; with_reducible rfl⟩) (by simp only [Act.put, List.setIfInBounds_toArray, List.set_cons_zero, List.set_cons_succ, i64_w, i32_w]; rfl) ?_
  refine pz 6 21 HT_ rfl rfl (by kernel_rfl) (fun _ _ _ h => h) (Or.inl ⟨by rfl, by intro w'; go_simp; with_reducible rfl⟩) (by simp only [Act.put, List.setIfInBounds_toArray, List.set_cons_zero, List.set_cons_succ, i64_w, i32_w]; rfl) ?_
  refine pz 7 22 HT_ rfl rfl (by kernel_rfl) (fun _ _ _ h => h) (Or.inl ⟨by rfl, by intro w'; go_simp; with_reducible rfl⟩) (by simp only [Act.put, List.setIfInBounds_toArray, List.set_cons_zero, List.set_cons_succ, i64_w, i32_w]; rfl) ?_
  refine tz 4 19 HT_ HW_ rfl rfl (by kernel_rfl) (fun _ _ _ h => h) (Or.inl ⟨by rfl, by rintro w' ⟨s0, s1, s2, s3⟩; go_simp; with_reducible rfl⟩) hHeld (by simp only [Act.put, List.setIfInBounds_toArray, List.set_cons_zero, List.set_cons_succ, i64_w, i32_w]; rfl) ?_
  refine tz 8 23 HT_ HW_ rfl rfl (by kernel_rfl) (fun _ _ _ h => h) (Or.inl ⟨by rfl, by rintro w' ⟨s0, s1, s2, s3⟩; go_simp; with_reducible rfl⟩) hHeld (by simp only [Act.put, List.setIfInBounds_toArray, List.set_cons_zero, List.set_cons_succ, i64_w, i32_w]; rfl) ?_
  refine join_ (σ := Nat × Value × Value) 1 #[true, true, true, true, true, true, true, true, true, true, true, false] (fun s_ => [(24, LSAv s.node s.floor 0 s.ov s_.2.1 s_.2.2), (4, .pointer (some ⟨s_.1, 0, none⟩))]) (fun s_ w' => (w'.cell? ⟨g, 0, none⟩ = some (.bool s.ov) ∧ w'.cell? ⟨g, 1, none⟩ = some (.slice A1 s.adj.length c1) ∧ w'.cell? ⟨g, 2, none⟩ = some (.slice A2 s.pre.length c2) ∧ w'.cell? ⟨g, 4, none⟩ = some (.int .i64 s.floor)) ∧ OB w' g s (.slice A1 s.adj.length c1) (.slice A2 s.pre.length c2) ∧ w'.heap[b2]? = some (.cells #[.int .i64 0, .int .i64 0, .int .i64 0, .bool false, .slice none 0 0, .slice none 0 0] 32 (0, 0)) ∧ w'.heap[s_.1]? = some (.cells #[.int .i64 0, .int .i64 0, .int .i64 0, .bool false, .slice none 0 0, .slice none 0 0] 32 (0, 0)) ∧ b2 ≠ s_.1 ∧ g ≠ s_.1 ∧ w.heap.size ≤ s_.1 ∧ FkA w' (fun k => k = b2 ∨ k = s_.1 ∨ k = g ∨ ZZ.z k) s_.2.1 s.adj ∧ FkP w' (fun k => k = b2 ∨ k = s_.1 ∨ k = g ∨ ZZ.z k) s_.2.2 s.pre ∧ Below w.heap.size w w') ?_ ?_
  rotate_left
  · intro hCont
    refine two_ (i := 9) (j := 10) (Ni := some 24) (Nj := some 4) #[true, true, true, true, true, true, true, true, true, true, false, false] #[true, true, true, true, true, true, true, true, true, false, true, false] rfl rfl rfl rfl (two_of HT_.out (by kernel_rfl)) (by decide) (by decide) (fun K hK => ?_) (fun K hK => ?_)
    · refine goes_ Try.func29 (by kernel_rfl) rfl #[.pointer (some ⟨g, 0, none⟩), .agg #[.bool s.ov, .slice A1 s.adj.length c1, .slice A2 s.pre.length c2], .int .i64 s.floor] (by rfl) rfl rfl (by (try simp only [List.map_toArray, List.map_cons, List.map_nil]); first | done | rfl | (simp only [List.length_drop, List.length_take]; rfl)) ?_
      refine (with_calls g s _ _ _ _ s.ov s.adj s.pre s.floor _ O1.out V1.out V2.out ha hp).mono ?_
      rintro e wc ⟨r1, r2, rfl, f1, f2, hb⟩
      refine ⟨_, rfl, ?_⟩
      have O2 := Aside0.mk (blk_below O1.out hb)
      have B3 := Aside0.mk (blk_below B2.out hb)
      have HB2 := Aside0.mk (below_step HB.out hb)
      have F1 := Aside0.mk f1
      have F2 := Aside0.mk f2
      have L2 := blk_lt B2.out
      have LG := blk_lt O1.out
      clear f1 f2 hb
      refine hK.out _ _ ⟨(blk_cell O2.out 0).trans rfl, (blk_cell O2.out 1).trans rfl, (blk_cell O2.out 2).trans rfl, (blk_cell O2.out 4).trans rfl⟩ (fun hHeld => ?_)
      clear hK K
      refine norm_ (a' := ?_) ?_ ?_
      rotate_left
      · show Act.put _ (some 24) _ = _
        simp only [Act.put, List.setIfInBounds_toArray, List.set_cons_zero, List.set_cons_succ, i64_w, i32_w]
        rfl
      refine one_ (i := 10) (N := some 4) #[true, true, true, true, true, true, true, true, true, true, true, false] rfl rfl (one_of HT_.out (by kernel_rfl)) (by decide) (fun K hK => ?_)
      refine box_step ?hg (N := 4) ?hd (cs := #[.int .i64 0, .int .i64 0, .int .i64 0, .bool false, .slice none 0 0, .slice none 0 0]) (t := 32) ?hr ?_; (case hd => rfl); (case hg => rfl); (case hr => first | (go_simp; done) | (go_simp; rfl)); intro b4 hg wd hbox hb
      have O3 := Aside0.mk (blk_below O2.out hb)
      have B4 := Aside0.mk (blk_below B3.out hb)
      have N1 : b2 ≠ b4 := by rw [hg]; exact Nat.ne_of_lt (blk_lt B3.out)
      have N2 : g ≠ b4 := by rw [hg]; exact Nat.ne_of_lt (blk_lt O2.out)
      have N3 : w.heap.size ≤ b4 := by rw [hg]; exact HB2.out.size
      have S1 : FkA wd (fun k => k = b2 ∨ k = b4 ∨ k = g ∨ ZZ.z k) r1 s.adj := F1.out.step (Kept.of_below hb _) (fun k hk => hk.elim (fun h => .inl (h ▸ L2)) (fun h => h.elim (fun h => .inr (by omega)) (fun h => h.elim (fun h => .inl (h ▸ LG)) (fun h => .inl (Nat.lt_of_lt_of_le (HZB.out k h) HB.out.size)))))
      have S2 : FkP wd (fun k => k = b2 ∨ k = b4 ∨ k = g ∨ ZZ.z k) r2 s.pre := F2.out.step (Kept.of_below hb _) (fun k hk => hk.elim (fun h => .inl (h ▸ L2)) (fun h => h.elim (fun h => .inr (by omega)) (fun h => h.elim (fun h => .inl (h ▸ LG)) (fun h => .inl (Nat.lt_of_lt_of_le (HZB.out k h) HB.out.size)))))
      refine hK.out _ _ ⟨(blk_cell O3.out 0).trans rfl, (blk_cell O3.out 1).trans rfl, (blk_cell O3.out 2).trans rfl, (blk_cell O3.out 4).trans rfl⟩ (fun hHeld => ?_)
      clear hK K
      refine norm_ (a' := ?_) ?_ ?_
      rotate_left
      · show Act.put _ (some 4) _ = _
        simp only [Act.put, List.setIfInBounds_toArray, List.set_cons_zero, List.set_cons_succ, i64_w, i32_w]
        rfl
      exact norm_ (by simp only [putAll, Act.put, List.setIfInBounds_toArray, List.set_cons_zero, List.set_cons_succ]) (hCont (b4, r1, r2) _ ⟨hHeld, O3.out, B4.out, hbox, N1, N2, N3, S1, S2, below_step HB2.out hb⟩)
    · refine box_step ?hg (N := 4) ?hd (cs := #[.int .i64 0, .int .i64 0, .int .i64 0, .bool false, .slice none 0 0, .slice none 0 0]) (t := 32) ?hr ?_; (case hd => rfl); (case hg => rfl); (case hr => first | (go_simp; done) | (go_simp; rfl)); intro b4 hg wc hbox hb
      have O2 := Aside0.mk (blk_below O1.out hb)
      have B3 := Aside0.mk (blk_below B2.out hb)
      have B4 := Aside0.mk hbox
      have N1 : b2 ≠ b4 := by rw [hg]; exact Nat.ne_of_lt (blk_lt B2.out)
      have N2 : g ≠ b4 := by rw [hg]; exact Nat.ne_of_lt (blk_lt O1.out)
      have N3 : w.heap.size ≤ b4 := by rw [hg]; exact HB.out.size
      have HB2 := Aside0.mk (below_step HB.out hb)
      have W1 := Aside0.mk (V1.out.below hb)
      have W2 := Aside0.mk (V2.out.below hb)
      clear hbox hb hg
      refine hK.out _ _ ⟨(blk_cell O2.out 0).trans rfl, (blk_cell O2.out 1).trans rfl, (blk_cell O2.out 2).trans rfl, (blk_cell O2.out 4).trans rfl⟩ (fun hHeld => ?_)
      clear hK K
      refine norm_ (a' := ?_) ?_ ?_
      rotate_left
      · show Act.put _ (some 4) _ = _
        simp only [Act.put, List.setIfInBounds_toArray, List.set_cons_zero, List.set_cons_succ, i64_w, i32_w]
        rfl
      refine one_ (i := 9) (N := some 24) #[true, true, true, true, true, true, true, true, true, true, true, false] rfl rfl (one_of HT_.out (by kernel_rfl)) (by decide) (fun K hK => ?_)
      refine goes_ Try.func29 (by kernel_rfl) rfl #[.pointer (some ⟨g, 0, none⟩), .agg #[.bool s.ov, .slice A1 s.adj.length c1, .slice A2 s.pre.length c2], .int .i64 s.floor] (by rfl) rfl rfl (by (try simp only [List.map_toArray, List.map_cons, List.map_nil]); first | done | rfl | (simp only [List.length_drop, List.length_take]; rfl)) ?_
      refine (with_calls g s _ _ _ _ s.ov s.adj s.pre s.floor _ O2.out W1.out W2.out ha hp).mono ?_
      rintro e wd ⟨r1, r2, rfl, f1, f2, hb⟩
      refine ⟨_, rfl, ?_⟩
      have O3 := Aside0.mk (blk_below O2.out hb)
      have L2 := blk_lt B3.out
      have L4 := blk_lt B4.out
      have LG := blk_lt O2.out
      have S1 : FkA wd (fun k => k = b2 ∨ k = b4 ∨ k = g ∨ ZZ.z k) r1 s.adj := f1.step (Kept.refl _ _) (fun k hk => hk.elim (fun h => .inl (h ▸ L2)) (fun h => h.elim (fun h => .inl (h ▸ L4)) (fun h => h.elim (fun h => .inl (h ▸ LG)) (fun h => .inl (Nat.lt_of_lt_of_le (HZB.out k h) HB2.out.size)))))
      have S2 : FkP wd (fun k => k = b2 ∨ k = b4 ∨ k = g ∨ ZZ.z k) r2 s.pre := f2.step (Kept.refl _ _) (fun k hk => hk.elim (fun h => .inl (h ▸ L2)) (fun h => h.elim (fun h => .inl (h ▸ L4)) (fun h => h.elim (fun h => .inl (h ▸ LG)) (fun h => .inl (Nat.lt_of_lt_of_le (HZB.out k h) HB2.out.size)))))
      refine hK.out _ _ ⟨(blk_cell O3.out 0).trans rfl, (blk_cell O3.out 1).trans rfl, (blk_cell O3.out 2).trans rfl, (blk_cell O3.out 4).trans rfl⟩ (fun hHeld => ?_)
      clear hK K
      refine norm_ (a' := ?_) ?_ ?_
      rotate_left
      · show Act.put _ (some 24) _ = _
        simp only [Act.put, List.setIfInBounds_toArray, List.set_cons_zero, List.set_cons_succ, i64_w, i32_w]
        rfl
      exact norm_ (by simp only [putAll, Act.put, List.setIfInBounds_toArray, List.set_cons_zero, List.set_cons_succ]) (hCont (b4, r1, r2) _ ⟨hHeld, O3.out, blk_below B3.out hb, blk_below B4.out hb, N1, N2, N3, S1, S2, below_step HB2.out hb⟩)
  rintro ⟨b4, r1, r2⟩ wd ⟨hHeld, h1, h2, h3, N1, N2, N3, S1, S2, h4⟩
  dsimp only at h3 N1 N2 N3 S1 S2 ⊢
  have S1' := Aside0.mk S1
  have S2' := Aside0.mk S2
  obtain ⟨A3, c3, rfl, -, -⟩ := S1
  obtain ⟨A4, c4, rfl, -, -⟩ := S2
  have O3 := Aside0.mk h1
  have B3 := Aside0.mk h2
  have B4 := Aside0.mk h3
  have HB4 := Aside0.mk h4
  have hG2 : w.heap.size ≤ b2 := Nat.le_of_eq G2.out.symm
  clear h1 h2 h3 h4 O1 B2 HB V1 V2
  refine norm_ (a' := ?_) ?_ ?_
  rotate_left
  · simp only [putAll, Act.put, List.setIfInBounds_toArray, List.set_cons_zero, List.set_cons_succ, LSAv]
    rfl
  refine one_ (i := 11) (N := none) #[true, true, true, true, true, true, true, true, true, true, true, true] rfl rfl (one_of HT_.out (by kernel_rfl)) (by decide) (fun K hK => ?_)
  have z0 : wd.cell? ⟨b4, 0, none⟩ = some (.int .i64 0) := (blk_cell B4.out 0).trans rfl; have zf0 := blk_frozen B4.out 0; have z1 : wd.cell? ⟨b4, 1, none⟩ = some (.int .i64 0) := (blk_cell B4.out 1).trans rfl; have zf1 := blk_frozen B4.out 1; have z2 : wd.cell? ⟨b4, 2, none⟩ = some (.int .i64 0) := (blk_cell B4.out 2).trans rfl; have zf2 := blk_frozen B4.out 2; have z3 : wd.cell? ⟨b4, 3, none⟩ = some (.bool false) := (blk_cell B4.out 3).trans rfl; have zf3 := blk_frozen B4.out 3; have z4 : wd.cell? ⟨b4, 4, none⟩ = some (.slice none 0 0) := (blk_cell B4.out 4).trans rfl; have zf4 := blk_frozen B4.out 4; have z5 : wd.cell? ⟨b4, 5, none⟩ = some (.slice none 0 0) := (blk_cell B4.out 5).trans rfl; have zf5 := blk_frozen B4.out 5
  refine skip_ (w1 := ?_) (by rfl) rfl ?_ ?_
  rotate_left
  · go_simp
    rfl
  have O5 := Aside0.mk (blk_far (p := ⟨b4, 5, none⟩) (blk_far (p := ⟨b4, 4, none⟩) (blk_far (p := ⟨b4, 3, none⟩) (blk_far (p := ⟨b4, 2, none⟩) (blk_far (p := ⟨b4, 1, none⟩) (blk_far (p := ⟨b4, 0, none⟩) O3.out N2 (.int .i64 s.node)) N2 (.int .i64 s.floor)) N2 (.int .i64 0)) N2 (.bool s.ov)) N2 (.slice A3 s.adj.length c3)) N2 (.slice A4 s.pre.length c4))
  have B5 := Aside0.mk (blk_far (p := ⟨b4, 5, none⟩) (blk_far (p := ⟨b4, 4, none⟩) (blk_far (p := ⟨b4, 3, none⟩) (blk_far (p := ⟨b4, 2, none⟩) (blk_far (p := ⟨b4, 1, none⟩) (blk_far (p := ⟨b4, 0, none⟩) B3.out N1 (.int .i64 s.node)) N1 (.int .i64 s.floor)) N1 (.int .i64 0)) N1 (.bool s.ov)) N1 (.slice A3 s.adj.length c3)) N1 (.slice A4 s.pre.length c4))
  have B6 := Aside0.mk (blk_put (cs' := #[.int .i64 s.node, .int .i64 s.floor, .int .i64 0, .bool s.ov, .slice A3 s.adj.length c3, .slice A4 s.pre.length c4]) (blk_put (cs' := #[.int .i64 s.node, .int .i64 s.floor, .int .i64 0, .bool s.ov, .slice A3 s.adj.length c3, .slice none 0 0]) (blk_put (cs' := #[.int .i64 s.node, .int .i64 s.floor, .int .i64 0, .bool s.ov, .slice none 0 0, .slice none 0 0]) (blk_put (cs' := #[.int .i64 s.node, .int .i64 s.floor, .int .i64 0, .bool false, .slice none 0 0, .slice none 0 0]) (blk_put (cs' := #[.int .i64 s.node, .int .i64 s.floor, .int .i64 0, .bool false, .slice none 0 0, .slice none 0 0]) (blk_put (cs' := #[.int .i64 s.node, .int .i64 0, .int .i64 0, .bool false, .slice none 0 0, .slice none 0 0]) B4.out 0 (.int .i64 s.node) rfl) 1 (.int .i64 s.floor) rfl) 2 (.int .i64 0) rfl) 3 (.bool s.ov) rfl) 4 (.slice A3 s.adj.length c3) rfl) 5 (.slice A4 s.pre.length c4) rfl)
  have HB5 := Aside0.mk (below_set (below_set (below_set (below_set (below_set (below_set HB4.out N3 (j := 0) (v := .int .i64 s.node)) N3 (j := 1) (v := .int .i64 s.floor)) N3 (j := 2) (v := .int .i64 0)) N3 (j := 3) (v := .bool s.ov)) N3 (j := 4) (v := .slice A3 s.adj.length c3)) N3 (j := 5) (v := .slice A4 s.pre.length c4))
  have K5 := Aside0.mk (show Kept wd ((((((wd.setCell ⟨b4, 0, none⟩ (.int .i64 s.node)).setCell ⟨b4, 1, none⟩ (.int .i64 s.floor)).setCell ⟨b4, 2, none⟩ (.int .i64 0)).setCell ⟨b4, 3, none⟩ (.bool s.ov)).setCell ⟨b4, 4, none⟩ (.slice A3 s.adj.length c3)).setCell ⟨b4, 5, none⟩ (.slice A4 s.pre.length c4)) (fun k => k = b2 ∨ k = b4 ∨ k = g ∨ ZZ.z k) from (Kept.setCell (Kept.setCell (Kept.setCell (Kept.setCell (Kept.setCell (Kept.setCell (Kept.refl _ _) (p := ⟨b4, 0, none⟩) (.inl (.inr (.inl rfl))) (.int .i64 s.node)) (p := ⟨b4, 1, none⟩) (.inl (.inr (.inl rfl))) (.int .i64 s.floor)) (p := ⟨b4, 2, none⟩) (.inl (.inr (.inl rfl))) (.int .i64 0)) (p := ⟨b4, 3, none⟩) (.inl (.inr (.inl rfl))) (.bool s.ov)) (p := ⟨b4, 4, none⟩) (.inl (.inr (.inl rfl))) (.slice A3 s.adj.length c3)) (p := ⟨b4, 5, none⟩) (.inl (.inr (.inl rfl))) (.slice A4 s.pre.length c4)))
  clear HB4 B4 B3 O3 z0 z1 z2 z3 z4 z5 zf0 zf1 zf2 zf3 zf4 zf5
  generalize ((((((wd.setCell ⟨b4, 0, none⟩ (.int .i64 s.node)).setCell ⟨b4, 1, none⟩ (.int .i64 s.floor)).setCell ⟨b4, 2, none⟩ (.int .i64 0)).setCell ⟨b4, 3, none⟩ (.bool s.ov)).setCell ⟨b4, 4, none⟩ (.slice A3 s.adj.length c3)).setCell ⟨b4, 5, none⟩ (.slice A4 s.pre.length c4)) = we at O5 B5 B6 HB5 K5 ⊢
  refine hK.out _ _ ⟨(blk_cell O5.out 0).trans rfl, (blk_cell O5.out 1).trans rfl, (blk_cell O5.out 2).trans rfl, (blk_cell O5.out 4).trans rfl⟩ (fun hHeld => ?_)
  clear hK K
  refine done_ (done_of HT_.out (by kernel_rfl)) ?_
  have y5 : we.cell? ⟨g, 5, none⟩ = some (.int .i64 s.age) := (blk_cell O5.out 5).trans rfl
  have x0 : we.cell? ⟨b2, 0, none⟩ = some (.int .i64 0) := (blk_cell B5.out 0).trans rfl; have xf0 := blk_frozen B5.out 0; have x1 : we.cell? ⟨b2, 1, none⟩ = some (.int .i64 0) := (blk_cell B5.out 1).trans rfl; have xf1 := blk_frozen B5.out 1; have x2 : we.cell? ⟨b2, 2, none⟩ = some (.int .i64 0) := (blk_cell B5.out 2).trans rfl; have xf2 := blk_frozen B5.out 2; have x3 : we.cell? ⟨b2, 3, none⟩ = some (.bool false) := (blk_cell B5.out 3).trans rfl; have xf3 := blk_frozen B5.out 3; have x4 : we.cell? ⟨b2, 4, none⟩ = some (.slice none 0 0) := (blk_cell B5.out 4).trans rfl; have xf4 := blk_frozen B5.out 4; have x5 : we.cell? ⟨b2, 5, none⟩ = some (.slice none 0 0) := (blk_cell B5.out 5).trans rfl; have xf5 := blk_frozen B5.out 5
  have z0 : we.cell? ⟨b4, 0, none⟩ = some (.int .i64 s.node) := (blk_cell B6.out 0).trans rfl; have zf0 := blk_frozen B6.out 0; have z1 : we.cell? ⟨b4, 1, none⟩ = some (.int .i64 s.floor) := (blk_cell B6.out 1).trans rfl; have zf1 := blk_frozen B6.out 1; have z2 : we.cell? ⟨b4, 2, none⟩ = some (.int .i64 0) := (blk_cell B6.out 2).trans rfl; have zf2 := blk_frozen B6.out 2; have z3 : we.cell? ⟨b4, 3, none⟩ = some (.bool s.ov) := (blk_cell B6.out 3).trans rfl; have zf3 := blk_frozen B6.out 3; have z4 : we.cell? ⟨b4, 4, none⟩ = some (.slice A3 s.adj.length c3) := (blk_cell B6.out 4).trans rfl; have zf4 := blk_frozen B6.out 4; have z5 : we.cell? ⟨b4, 5, none⟩ = some (.slice A4 s.pre.length c4) := (blk_cell B6.out 5).trans rfl; have zf5 := blk_frozen B6.out 5
  have N1' := N1.symm
  try go_wp2
  refine bodyPost_ret (results_ct rfl _ _ b2 32 #[.int .i64 s.node, .int .i64 s.floor, .int .i64 s.age, .bool s.ov, .slice A3 s.adj.length c3, .slice A4 s.pre.length c4] (0, 0) _ rfl (blk_put (cs' := #[.int .i64 s.node, .int .i64 s.floor, .int .i64 s.age, .bool s.ov, .slice A3 s.adj.length c3, .slice A4 s.pre.length c4]) (blk_put (cs' := #[.int .i64 s.node, .int .i64 s.floor, .int .i64 s.age, .bool s.ov, .slice A3 s.adj.length c3, .slice none 0 0]) (blk_put (cs' := #[.int .i64 s.node, .int .i64 s.floor, .int .i64 s.age, .bool s.ov, .slice none 0 0, .slice none 0 0]) (blk_put (cs' := #[.int .i64 s.node, .int .i64 s.floor, .int .i64 s.age, .bool false, .slice none 0 0, .slice none 0 0]) (blk_put (cs' := #[.int .i64 s.node, .int .i64 s.floor, .int .i64 0, .bool false, .slice none 0 0, .slice none 0 0]) (blk_put (cs' := #[.int .i64 s.node, .int .i64 0, .int .i64 0, .bool false, .slice none 0 0, .slice none 0 0]) (blk_far (p := ⟨b4, 2, none⟩) B5.out N1 (.int .i64 s.age)) 0 (.int .i64 s.node) rfl) 1 (.int .i64 s.floor) rfl) 2 (.int .i64 s.age) rfl) 3 (.bool s.ov) rfl) 4 (.slice A3 s.adj.length c3) rfl) 5 (.slice A4 s.pre.length c4) rfl) Try.underlying32 rfl (by kernel_rfl)) rfl ?_
  have K6 := (Kept.setCell (Kept.setCell (Kept.setCell (Kept.setCell (Kept.setCell (Kept.setCell (Kept.setCell K5.out (p := ⟨b4, 2, none⟩) (.inl (.inr (.inl rfl))) (.int .i64 s.age)) (p := ⟨b2, 0, none⟩) (.inl (.inl rfl)) (.int .i64 s.node)) (p := ⟨b2, 1, none⟩) (.inl (.inl rfl)) (.int .i64 s.floor)) (p := ⟨b2, 2, none⟩) (.inl (.inl rfl)) (.int .i64 s.age)) (p := ⟨b2, 3, none⟩) (.inl (.inl rfl)) (.bool s.ov)) (p := ⟨b2, 4, none⟩) (.inl (.inl rfl)) (.slice A3 s.adj.length c3)) (p := ⟨b2, 5, none⟩) (.inl (.inl rfl)) (.slice A4 s.pre.length c4))
  have HZ9 : ∀ k, ZZ.z k → k < _ := fun k h => Nat.lt_of_lt_of_le (HZB.out k h) (below_set (below_set (below_set (below_set (below_set (below_set (below_set HB5.out N3 (j := 2) (v := .int .i64 s.age)) hG2 (j := 0) (v := .int .i64 s.node)) hG2 (j := 1) (v := .int .i64 s.floor)) hG2 (j := 2) (v := .int .i64 s.age)) hG2 (j := 3) (v := .bool s.ov)) hG2 (j := 4) (v := .slice A3 s.adj.length c3)) hG2 (j := 5) (v := .slice A4 s.pre.length c4)).size
  exact ⟨_, _, rfl, (S1'.out.step K6 (fun k h => .inl h)).ft (.inr (.inr (.inl rfl))) HZ9 (fun k h => .inr (.inr (.inr h))), (S2'.out.step K6 (fun k h => .inl h)).ft (.inr (.inr (.inl rfl))) HZ9 (fun k h => .inr (.inr (.inr h))), (below_set (below_set (below_set (below_set (below_set (below_set (below_set HB5.out N3 (j := 2) (v := .int .i64 s.age)) hG2 (j := 0) (v := .int .i64 s.node)) hG2 (j := 1) (v := .int .i64 s.floor)) hG2 (j := 2) (v := .int .i64 s.age)) hG2 (j := 3) (v := .bool s.ov)) hG2 (j := 4) (v := .slice A3 s.adj.length c3)) hG2 (j := 5) (v := .slice A4 s.pre.length c4))⟩
theorem current_calls (g : Nat) (s : OS) (w : World) (hO : Orig w g s) (ha : s.adj.length < 1000000000) (hp : s.pre.length < 1000000000) (hc : s.cur = true) :
    Calls Try.prog 12 #[.pointer (some ⟨g, 0, none⟩)] w fun e w' => ∃ r1 r2, e = .returned (.tuple #[LSAv s.node s.floor s.age s.ov r1 r2, .bool true]) ∧ RdA w' r1 s.adj ∧ RdP w' r2 s.pre ∧ Below w.heap.size w w' :=
  (current_ft g s w hO ha hp hc).mono fun e w' ⟨r1, r2, he, h1, h2, hb⟩ => ⟨r1, r2, he, h1.rd, h2.rd, hb⟩
set_option maxHeartbeats 8000000 in
set_option maxRecDepth 100000 in
theorem current_none (g : Nat) (s : OS) (w : World) (hO : Orig w g s) (hc : s.cur = false) :
    Calls Try.prog 12 #[.pointer (some ⟨g, 0, none⟩)] w fun e w' => e = .returned (.tuple #[ZL, .bool false]) ∧ Below w.heap.size w w' := by
  have hu2 := Try.underlying32
  obtain ⟨u1, u2, hO, -, -⟩ := hO
  have HO := Aside0.mk hO
  clear hO
  go_enter Try.func12, Try.ntmps12
  go_wp2_with (
    first
    | ((with_reducible refine gate_dst (N := 2) rfl ?_); refine box_event ?hg (N := 2) ?hd (cs := #[.int .i64 0, .int .i64 0, .int .i64 0, .bool false, .slice none 0 0, .slice none 0 0]) (t := 32) ?hr ?_; (case hd => rfl); (case hg => rfl); (case hr => first | (go_simp; done) | (go_simp; rfl)); intro b2 hg wa hbox hb; have O1 := Aside0.mk (blk_below HO.out hb); have B2 := Aside0.mk hbox; have G2 := Aside0.mk (Nat.le_of_eq hg.symm); have HB := Aside0.mk hb; have z6a : wa.cell? ⟨g, 6, none⟩ = some (.bool false) := (blk_cell O1.out 6).trans (by rw [hc]; rfl); have x0 : wa.cell? ⟨b2, 0, none⟩ = some (.int .i64 0) := (blk_cell B2.out 0).trans rfl; have xf0 := blk_frozen B2.out 0; have x1 : wa.cell? ⟨b2, 1, none⟩ = some (.int .i64 0) := (blk_cell B2.out 1).trans rfl; have xf1 := blk_frozen B2.out 1; have x2 : wa.cell? ⟨b2, 2, none⟩ = some (.int .i64 0) := (blk_cell B2.out 2).trans rfl; have xf2 := blk_frozen B2.out 2; have x3 : wa.cell? ⟨b2, 3, none⟩ = some (.bool false) := (blk_cell B2.out 3).trans rfl; have xf3 := blk_frozen B2.out 3; have x4 : wa.cell? ⟨b2, 4, none⟩ = some (.slice none 0 0) := (blk_cell B2.out 4).trans rfl; have xf4 := blk_frozen B2.out 4; have x5 : wa.cell? ⟨b2, 5, none⟩ = some (.slice none 0 0) := (blk_cell B2.out 5).trans rfl; have xf5 := blk_frozen B2.out 5; clear hbox hb hg))
  refine bodyPost_ret (results_ct rfl _ _ b2 32 #[.int .i64 0, .int .i64 0, .int .i64 0, .bool false, .slice none 0 0, .slice none 0 0] (0, 0) _ rfl (blk_put (cs' := #[.int .i64 0, .int .i64 0, .int .i64 0, .bool false, .slice none 0 0, .slice none 0 0]) (blk_put (cs' := #[.int .i64 0, .int .i64 0, .int .i64 0, .bool false, .slice none 0 0, .slice none 0 0]) (blk_put (cs' := #[.int .i64 0, .int .i64 0, .int .i64 0, .bool false, .slice none 0 0, .slice none 0 0]) (blk_put (cs' := #[.int .i64 0, .int .i64 0, .int .i64 0, .bool false, .slice none 0 0, .slice none 0 0]) (blk_put (cs' := #[.int .i64 0, .int .i64 0, .int .i64 0, .bool false, .slice none 0 0, .slice none 0 0]) (blk_put (cs' := #[.int .i64 0, .int .i64 0, .int .i64 0, .bool false, .slice none 0 0, .slice none 0 0]) B2.out 0 (.int .i64 0) rfl) 1 (.int .i64 0) rfl) 2 (.int .i64 0) rfl) 3 (.bool false) rfl) 4 (.slice none 0 0) rfl) 5 (.slice none 0 0) rfl) Try.underlying32 rfl (by kernel_rfl)) rfl ?_
  exact ⟨rfl, (below_set (below_set (below_set (below_set (below_set (below_set HB.out G2.out (j := 0) (v := .int .i64 0)) G2.out (j := 1) (v := .int .i64 0)) G2.out (j := 2) (v := .int .i64 0)) G2.out (j := 3) (v := .bool false)) G2.out (j := 4) (v := .slice none 0 0)) G2.out (j := 5) (v := .slice none 0 0))⟩
set_option maxHeartbeats 8000000 in
set_option maxRecDepth 100000 in
theorem current_nil (w : World) :
    Calls Try.prog 12 #[.pointer none] w fun e w' => e = .returned (.tuple #[ZL, .bool false]) ∧ Below w.heap.size w w' := by
  have hu2 := Try.underlying32
  go_enter Try.func12, Try.ntmps12
  go_wp2_with (
    first
    | ((with_reducible refine gate_dst (N := 2) rfl ?_); refine box_event ?hg (N := 2) ?hd (cs := #[.int .i64 0, .int .i64 0, .int .i64 0, .bool false, .slice none 0 0, .slice none 0 0]) (t := 32) ?hr ?_; (case hd => rfl); (case hg => rfl); (case hr => first | (go_simp; done) | (go_simp; rfl)); intro b2 hg wa hbox hb; have B2 := Aside0.mk hbox; have G2 := Aside0.mk (Nat.le_of_eq hg.symm); have HB := Aside0.mk hb; have x0 : wa.cell? ⟨b2, 0, none⟩ = some (.int .i64 0) := (blk_cell B2.out 0).trans rfl; have xf0 := blk_frozen B2.out 0; have x1 : wa.cell? ⟨b2, 1, none⟩ = some (.int .i64 0) := (blk_cell B2.out 1).trans rfl; have xf1 := blk_frozen B2.out 1; have x2 : wa.cell? ⟨b2, 2, none⟩ = some (.int .i64 0) := (blk_cell B2.out 2).trans rfl; have xf2 := blk_frozen B2.out 2; have x3 : wa.cell? ⟨b2, 3, none⟩ = some (.bool false) := (blk_cell B2.out 3).trans rfl; have xf3 := blk_frozen B2.out 3; have x4 : wa.cell? ⟨b2, 4, none⟩ = some (.slice none 0 0) := (blk_cell B2.out 4).trans rfl; have xf4 := blk_frozen B2.out 4; have x5 : wa.cell? ⟨b2, 5, none⟩ = some (.slice none 0 0) := (blk_cell B2.out 5).trans rfl; have xf5 := blk_frozen B2.out 5; clear hbox hb hg))
  refine bodyPost_ret (results_ct rfl _ _ b2 32 #[.int .i64 0, .int .i64 0, .int .i64 0, .bool false, .slice none 0 0, .slice none 0 0] (0, 0) _ rfl (blk_put (cs' := #[.int .i64 0, .int .i64 0, .int .i64 0, .bool false, .slice none 0 0, .slice none 0 0]) (blk_put (cs' := #[.int .i64 0, .int .i64 0, .int .i64 0, .bool false, .slice none 0 0, .slice none 0 0]) (blk_put (cs' := #[.int .i64 0, .int .i64 0, .int .i64 0, .bool false, .slice none 0 0, .slice none 0 0]) (blk_put (cs' := #[.int .i64 0, .int .i64 0, .int .i64 0, .bool false, .slice none 0 0, .slice none 0 0]) (blk_put (cs' := #[.int .i64 0, .int .i64 0, .int .i64 0, .bool false, .slice none 0 0, .slice none 0 0]) (blk_put (cs' := #[.int .i64 0, .int .i64 0, .int .i64 0, .bool false, .slice none 0 0, .slice none 0 0]) B2.out 0 (.int .i64 0) rfl) 1 (.int .i64 0) rfl) 2 (.int .i64 0) rfl) 3 (.bool false) rfl) 4 (.slice none 0 0) rfl) 5 (.slice none 0 0) rfl) Try.underlying32 rfl (by kernel_rfl)) rfl ?_
  exact ⟨rfl, (below_set (below_set (below_set (below_set (below_set (below_set HB.out G2.out (j := 0) (v := .int .i64 0)) G2.out (j := 1) (v := .int .i64 0)) G2.out (j := 2) (v := .int .i64 0)) G2.out (j := 3) (v := .bool false)) G2.out (j := 4) (v := .slice none 0 0)) G2.out (j := 5) (v := .slice none 0 0))⟩
end Go.Proofs.Ytdkfhlfojleejaa.HLsc
