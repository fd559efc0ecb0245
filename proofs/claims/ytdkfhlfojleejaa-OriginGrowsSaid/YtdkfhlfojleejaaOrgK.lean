/-
  OriginGrows: the row of what is known, beside the originator.
-/
import Derived.Test.YtdkfhlfojleejaaOrgW
namespace Go.Proofs.Ytdkfhlfojleejaa.HLsc
open Go.RowKit Go.Proofs.YtdkfhlfojleejaaW.PrintWords Go.Proofs.YtdkfhlfojleejaaW.PrintLast Go.Proofs.YtdkfhlfojleejaaW.PrintMore
open Go.Proofs.Ytdkfhlfojleejaa.LM Go.Proofs.Ytdkfhlfojleejaa.LS
set_option linter.unusedVariables false
set_option linter.unusedSimpArgs false
set_option linter.unusedSectionVars false
theorem valid_g {a : L} (h : Valid a) : G32 a.pf := fun p hp => (Row.mem h.pf hp).2.1
structure Inv (n : Int) (s : OS) : Prop where
  node : s.node = n
  n0 : 0 ≤ n ∧ n ≤ 63
  f : 0 ≤ s.floor ∧ s.floor ≤ 1073741824
  a : 0 ≤ s.age ∧ s.age ≤ 3599
  la : s.adj.length ≤ 300
  lp : s.pre.length ≤ 300
  g : G32 s.pre
  v : s.cur = true → 1 ≤ s.floor ∧ VL n 1 0 s.ov s.adj s.pre
theorem Inv.valid {n : Int} {s : OS} (h : Inv n s) (hc : s.cur = true) : Valid ⟨n, s.floor, s.age, s.ov, s.adj, s.pre⟩ := by
  obtain ⟨h1, hv⟩ := h.v hc
  have ha := h.a
  exact ⟨h.n0, ⟨h1, h.f.2⟩, ⟨ha.1, by show s.age ≤ 3600; omega⟩, hv.nad, hv.npf, hv.ad, hv.pf, fun e => by simp only at e; omega⟩
theorem inv_new (n : Int) (h0 : 0 ≤ n) (h1 : n ≤ 63) : Inv n ⟨false, [], [], n, 0, 0, false⟩ := ⟨rfl, ⟨h0, h1⟩, ⟨Int.le_refl _, by simp⟩, ⟨Int.le_refl _, by simp⟩, by simp, by simp, g32_nil, fun h => by cases h⟩
theorem inv_set {n : Int} {s : OS} (h : Inv n s) (ov : Bool) (la : List AD) (lp : List PF) (hG : G32 lp) :
    Inv n (s.setP ov la lp).1 ∧ s.floor ≤ (s.setP ov la lp).1.floor ∧ ((s.setP ov la lp).2.1 = true → (s.setP ov la lp).1.cur = true ∧ s.floor < (s.setP ov la lp).1.floor) := by
  have hf := h.f
  unfold OS.setP
  by_cases hv : VL s.node 1 0 ov la lp
  rotate_left
  · rw [decide_eq_false hv]
    simp only [OS.set, if_true]
    exact ⟨h, Int.le_refl _, fun c => by cases c⟩
  rw [decide_eq_true hv]
  generalize decide (Sm ⟨s.node, 1, 0, ov, la, lp⟩ ⟨s.node, 1, 0, s.ov, s.adj, s.pre⟩) = q
  unfold OS.set
  rw [if_neg (by simp)]
  by_cases c1 : s.cur = true ∧ q = true
  · rw [if_pos c1]
    exact ⟨h, Int.le_refl _, fun c => by cases c⟩
  rw [if_neg c1]
  by_cases c2 : s.floor ≥ 1073741824
  · rw [if_pos c2]
    exact ⟨h, Int.le_refl _, fun c => by cases c⟩
  rw [if_neg c2]
  unfold OS.made
  rw [w64r (by omega) (by omega)]
  rw [h.node] at hv
  have l1 : la.length ≤ 256 := hv.nad
  have l2 : lp.length ≤ 64 := hv.npf
  exact ⟨⟨h.node, h.n0, ⟨by show 0 ≤ s.floor + 1; omega, by show s.floor + 1 ≤ 1073741824; omega⟩, ⟨Int.le_refl _, by simp⟩, by show la.length ≤ 300; omega, by show lp.length ≤ 300; omega, hG, fun _ => ⟨by show 1 ≤ s.floor + 1; omega, hv⟩⟩, by show s.floor ≤ s.floor + 1; omega, fun _ => ⟨rfl, by show s.floor < s.floor + 1; omega⟩⟩
theorem inv_hear {n : Int} {s : OS} (h : Inv n s) (a : L) :
    Inv n (s.hearP a).1 ∧ s.floor ≤ (s.hearP a).1.floor ∧ ((s.hearP a).2.1 = true → (s.hearP a).1.cur = true ∧ s.floor < (s.hearP a).1.floor) ∧
    ((s.hearP a).2.2 = 0 → Valid a ∧ a.o = n ∧ a.s ≤ (s.hearP a).1.floor ∧ ((s.hearP a).2.1 = true → a.s < (s.hearP a).1.floor)) := by
  have hf := h.f
  unfold OS.hearP
  by_cases hv : Valid a
  rotate_left
  · rw [decide_eq_false hv]
    simp only [OS.hear, if_true]
    exact ⟨h, Int.le_refl _, (fun c => by cases c), fun c => by cases c⟩
  rw [decide_eq_true hv]
  have hs := hv.s
  by_cases ho : a.o = s.node
  rotate_left
  · unfold OS.hear
    rw [if_neg (by simp), if_pos ho]
    exact ⟨h, Int.le_refl _, (fun c => by cases c), fun c => by cases c⟩
  have hon : a.o = n := ho.trans h.node
  by_cases hc : s.cur = false
  · unfold OS.hear
    rw [if_neg (by simp), if_neg (by simpa using ho), if_pos hc]
    have hm : mx s.floor a.s = s.floor ∨ mx s.floor a.s = a.s := by unfold mx; split <;> simp
    have hm1 : s.floor ≤ mx s.floor a.s ∧ a.s ≤ mx s.floor a.s := by unfold mx; split <;> omega
    refine ⟨⟨h.node, h.n0, ⟨by show 0 ≤ mx s.floor a.s; omega, by show mx s.floor a.s ≤ 1073741824; omega⟩, h.a, h.la, h.lp, h.g, fun c => by rw [show s.cur = true from c] at hc; cases hc⟩, hm1.1, (fun c => by cases c), fun _ => ⟨hv, hon, hm1.2, fun c => by cases c⟩⟩
  have hcur : s.cur = true := by simpa using hc
  have hw : Valid ⟨s.node, s.floor, s.age, s.ov, s.adj, s.pre⟩ := by
    have := h.valid hcur
    rwa [← h.node] at this
  have ha := h.a
  have hn := newer_v hv hw
  unfold OS.hear
  rw [if_neg (by simp), if_neg (by simpa using ho), if_neg hc]
  by_cases c1 : newer a ⟨s.node, s.floor, s.age, s.ov, s.adj, s.pre⟩ ≤ 0
  · rw [if_pos c1]
    refine ⟨h, Int.le_refl _, (fun c => by cases c), fun _ => ⟨hv, hon, ?_, fun c => by cases c⟩⟩
    show a.s ≤ s.floor
    by_cases e1 : a.s = s.floor
    · omega
    · rw [if_neg e1] at hn
      by_cases e2 : a.s < s.floor
      · omega
      · rw [if_neg e2] at hn; omega
  rw [if_neg c1]
  by_cases c2 : a.s ≥ 1073741824
  · rw [if_pos c2]
    exact ⟨h, Int.le_refl _, (fun c => by cases c), fun c => by cases c⟩
  rw [if_neg c2]
  have hge : s.floor ≤ a.s := by
    by_cases e2 : a.s < s.floor
    · rw [if_neg (by show ¬ a.s = s.floor; omega), if_pos (show a.s < s.floor from e2)] at hn
      omega
    · omega
  unfold OS.made
  rw [w64r (by omega) (by omega)]
  exact ⟨⟨h.node, h.n0, ⟨by show 0 ≤ a.s + 1; omega, by show a.s + 1 ≤ 1073741824; omega⟩, ⟨Int.le_refl _, by simp⟩, h.la, h.lp, h.g, fun _ => ⟨by show 1 ≤ a.s + 1; omega, (h.v hcur).2⟩⟩, by show s.floor ≤ a.s + 1; omega, fun _ => ⟨rfl, by show s.floor < a.s + 1; omega⟩, fun _ => ⟨hv, hon, by show a.s ≤ a.s + 1; omega, fun _ => by show a.s < a.s + 1; omega⟩⟩
theorem grow_inv {n : Int} {s : OS} (h : Inv n s) (m : Int) (h0 : 0 ≤ m) (h1 : m ≤ 100000) : Inv n (s.grow m) ∧ (s.grow m).floor = s.floor ∧ (s.grow m).cur = s.cur := by
  have ha := h.a
  have e1 : 0 ≤ mn m 3600 ∧ mn m 3600 ≤ 3600 := by unfold mn; split <;> omega
  have e2 : 0 ≤ mn 3599 (wrap64 (s.age + mn m 3600)) ∧ mn 3599 (wrap64 (s.age + mn m 3600)) ≤ 3599 := by
    rw [w64r (by omega) (by omega)]
    unfold mn at e1 ⊢
    split <;> omega
  exact ⟨⟨h.node, h.n0, h.f, e2, h.la, h.lp, h.g, h.v⟩, rfl, rfl⟩
theorem inv_tick {n : Int} {s : OS} (h : Inv n s) (m : Int) (hm : m ≤ 30000) :
    Inv n (s.tick m).1 ∧ s.floor ≤ (s.tick m).1.floor ∧ ((s.tick m).2 = true → (s.tick m).1.cur = true ∧ s.floor < (s.tick m).1.floor) := by
  have hf := h.f
  have ha := h.a
  unfold OS.tick
  by_cases hc : s.cur = false
  · rw [if_pos hc]
    exact ⟨h, Int.le_refl _, fun c => by cases c⟩
  have hcur : s.cur = true := by simpa using hc
  rw [if_neg hc]
  by_cases h0 : m ≤ 0
  · rw [if_pos h0]
    exact ⟨h, Int.le_refl _, fun c => by cases c⟩
  rw [if_neg h0]
  have hg := grow_inv h m (by omega) (by omega)
  have hr : s.rest = 1800 - s.age := by unfold OS.rest; rw [w64r (by omega) (by omega)]
  by_cases c1 : s.rest ≤ 0
  · rw [if_pos c1]
    exact ⟨hg.1, by rw [hg.2.1]; exact Int.le_refl _, fun c => by cases c⟩
  rw [if_neg c1]
  by_cases c2 : m < s.rest
  · rw [if_pos c2]
    exact ⟨hg.1, by rw [hg.2.1]; exact Int.le_refl _, fun c => by cases c⟩
  rw [if_neg c2]
  by_cases c3 : s.floor ≥ 1073741824
  · rw [if_pos c3]
    exact ⟨hg.1, by rw [hg.2.1]; exact Int.le_refl _, fun c => by cases c⟩
  rw [if_neg c3]
  have ht : 1 ≤ s.times m ∧ s.times m ≤ 1073741824 - s.floor ∧ (s.times m - 1) * 1800 ≤ m - s.rest := by
    unfold OS.times
    rw [w64r (n := m - s.rest) (by omega) (by omega), Int.tdiv_eq_ediv_of_nonneg (by omega), w64r (n := (m - s.rest) / 1800) (by omega) (by omega), w64r (n := (m - s.rest) / 1800 + 1) (by omega) (by omega), w64r (n := 1073741824 - s.floor) (by omega) (by omega)]
    unfold mn
    split <;> omega
  obtain ⟨t1, t2, t3⟩ := ht
  rw [w64r (n := s.floor + s.times m) (by omega) (by omega), w64r (n := s.times m - 1) (by omega) (by omega), w64r (n := m - s.rest) (by omega) (by omega), w64r (n := (s.times m - 1) * 1800) (by omega) (by omega), w64r (by omega) (by omega)]
  have h2 : Inv n { s with floor := s.floor + s.times m, age := 0 } := ⟨h.node, h.n0, ⟨by show 0 ≤ s.floor + s.times m; omega, by show s.floor + s.times m ≤ 1073741824; omega⟩, ⟨Int.le_refl _, by simp⟩, h.la, h.lp, h.g, fun c => ⟨by show 1 ≤ s.floor + s.times m; omega, (h.v c).2⟩⟩
  have hg2 := grow_inv h2 (m - s.rest - (s.times m - 1) * 1800) (by omega) (by omega)
  exact ⟨hg2.1, by show s.floor ≤ s.floor + s.times m; omega, fun _ => ⟨hcur, by show s.floor < s.floor + s.times m; omega⟩⟩
/-- An advertisement with a lesser number is older. -/
theorem newer_lt {a b : L} (ha : Valid a) (hb : Valid b) (h : b.s < a.s) : newer a b = 1 := by
  rw [newer_v ha hb, if_neg (by omega), if_neg (by omega)]
/-! ### what few says -/
theorem rd38 (pre suf : List S38) (x : S38) : rd_T38 (pre ++ x :: suf) (pre.length : Int) = x := by simp [rd_T38]
def FewS (x : S38) : Prop := x.f2.f4.length ≤ 300 ∧ x.f2.f5.length ≤ 100 ∧ x.f1 ≤ 30000
instance (x : S38) : Decidable (FewS x) := by unfold FewS; infer_instance
theorem few_l0 (l : List S38) (hl : l.length ≤ 9223372036854775807) : ∀ (suf pre : List S38) (k : Nat) (n : Int), l = pre ++ suf → suf.length + 1 ≤ k →
    ∃ b, waypointlaw36_few.l0 k l n (pre.length : Int) = some b ∧ (b = true → l.length ≤ 15 ∧ ∀ x ∈ suf, FewS x)
  | [], pre, k, n, he, hk => by
    obtain ⟨k, rfl⟩ : ∃ j, k = j + 1 := ⟨k - 1, by omega⟩
    have : l.length = pre.length := by rw [he]; simp
    simp only [waypointlaw36_few.l0]
    rw [if_neg (by omega)]
    by_cases c : (l.length : Int) ≤ 15
    · rw [if_pos c]
      exact ⟨_, rfl, fun _ => ⟨by omega, fun _ h => by cases h⟩⟩
    · rw [if_neg c]
      exact ⟨_, rfl, fun h => by cases h⟩
  | x :: suf, pre, k, n, he, hk => by
    obtain ⟨k, rfl⟩ : ∃ j, k = j + 1 := ⟨k - 1, by omega⟩
    have hlen : l.length = pre.length + suf.length + 1 := by rw [he]; simp; omega
    have hx : rd_T38 l (pre.length : Int) = x := by rw [he]; exact rd38 pre suf x
    simp only [waypointlaw36_few.l0]
    rw [if_pos (by omega), if_pos (by omega), hx, few_eq]
    simp only [Option.bind_some]
    by_cases c : x.f2.f4.length ≤ 300 ∧ x.f2.f5.length ≤ 100
    · rw [decide_eq_true c, if_pos rfl]
      by_cases c2 : x.f1 > 30000
      · rw [if_pos c2]
        exact ⟨_, rfl, fun h => by cases h⟩
      · rw [if_neg c2, w64r (n := (pre.length : Int) + 1) (by omega) (by omega)]
        obtain ⟨b, hb, h⟩ := few_l0 l hl suf (pre ++ [x]) k (wrap64 (n + mx 0 x.f1)) (by rw [he]; simp) (by simp at hk; omega)
        rw [show (((pre ++ [x]).length : Nat) : Int) = pre.length + 1 by simp] at hb
        refine ⟨b, hb, fun hb' => ?_⟩
        obtain ⟨h1, h2⟩ := h hb'
        refine ⟨h1, fun y hy => ?_⟩
        rcases List.mem_cons.1 hy with rfl | hy
        · exact ⟨c.1, c.2, by omega⟩
        · exact h2 y hy
    · rw [decide_eq_false c, if_neg (by simp)]
      exact ⟨_, rfl, fun h => by cases h⟩
theorem few_all (l : List S38) (hl : l.length ≤ 9223372036854775807) : ∃ b, waypointlaw36_few.f (l.length + 1) l = some b ∧ (b = true → l.length ≤ 15 ∧ ∀ x ∈ l, FewS x) :=
  few_l0 l hl l [] (l.length + 1) 0 rfl (by omega)
end Go.Proofs.Ytdkfhlfojleejaa.HLsc
namespace Go.Proofs.Ytdkfhlfojleejaa.HLsc
open Go.RowKit Go.Proofs.YtdkfhlfojleejaaW.PrintWords Go.Proofs.YtdkfhlfojleejaaW.PrintLast Go.Proofs.YtdkfhlfojleejaaW.PrintMore
open Go.Proofs.Ytdkfhlfojleejaa.LM Go.Proofs.Ytdkfhlfojleejaa.LS
set_option linter.unusedVariables false
set_option linter.unusedSimpArgs false
set_option linter.unusedSectionVars false
/-- The blocks of the row v. -/
abbrev ZI (v : Value) : ZZ := ⟨fun k => v.ownBlock = some k⟩
/-- An element of the row v. -/
def KE (g : Nat) (v : Value) (W : World) (a : L) (cs : List Value) : Prop := ∃ v1 v2, cs = [.int .i64 a.o, .int .i64 a.s, .int .i64 a.age, .bool a.ov, v1, v2] ∧ @FtA (ZI v) W g v1 a.ad ∧ @FtP (ZI v) W g v2 a.pf
theorem ftA_keep {W W' : World} {g : Nat} {v v1 : Value} {la : List AD} (h : @FtA (ZI v) W g v1 la) (hk : KeepBut W W' g none) : @FtA (ZI v) W' g v1 la := by
  letI := ZI v
  exact h.keep hk
theorem ftP_keep {W W' : World} {g : Nat} {v v1 : Value} {la : List PF} (h : @FtP (ZI v) W g v1 la) (hk : KeepBut W W' g none) : @FtP (ZI v) W' g v1 la := by
  letI := ZI v
  exact h.keep hk
theorem KE.keep {g : Nat} {v : Value} {W W' : World} {a : L} {cs : List Value} (h : KE g v W a cs) (hk : KeepBut W W' g none) : KE g v W' a cs := by
  obtain ⟨v1, v2, rfl, h1, h2⟩ := h
  exact ⟨v1, v2, rfl, ftA_keep h1 hk, ftP_keep h2 hk⟩
structure GW (w : World) (g : Nat) (W : World) (s : OS) (v : Value) (l : List L) : Prop where
  O : @Orig (ZI v) W g s
  K : OwnRow (KE g v W) 32 6 W w.heap.size v l
  HB : Below w.heap.size w W
  G : w.heap.size ≤ g
section
variable {w W W' w1 : World} {g : Nat} {s s' : OS} {v v1 : Value} {l : List L} {a : L}
theorem GW.below (h : GW w g W s v l) (hb : Below W.heap.size W W') : GW w g W' s v l := by
  refine ⟨?_, (h.K.below hb).imp_ (fun _ _ k => k.keep (KeepBut.of_below hb g none)), below_step h.HB hb, h.G⟩
  letI := ZI v
  exact h.O.below hb
theorem GW.mut (h : GW w g W s v l) (hM : Mut g W W') (hO : @Orig (ZI v) W' g s') : GW w g W' s' v l := by
  obtain ⟨_, _, hOB, _⟩ := h.O
  exact ⟨hO, (OwnRow.keep h.K hOB (by decide) hM.k).imp_ (fun _ _ k => k.keep hM.k), h.HB.trans (hM.b.mono h.G), h.G⟩
theorem ft_app (hg : W.grownBy w1 v.ownBlock) (hat : v1.ownBlock = v.ownBlock ∨ ∃ b, v1.ownBlock = some b ∧ W.heap.size ≤ b) (W2 : World) (hk : Kept w1 W2 (fun k => k = g ∨ v1.ownBlock = some k)) : Kept W W2 (fun k => k = g ∨ v.ownBlock = some k) := by
  refine (Kept.of_grown hg (Kept.refl W _) (fun k e => .inl (.inr e))).then_ hk (fun k h => ?_)
  rcases h with h | h
  · exact .inl (.inl h)
  · rcases hat with e | ⟨b, e, hb⟩
    · exact .inl (.inr (e ▸ h))
    · rw [e] at h
      injection h with h
      exact .inr (h ▸ hb)
theorem ftA_app {u : Value} {la : List AD} (hz : ∀ k, v1.ownBlock = some k → k < w1.heap.size) (hg : W.grownBy w1 v.ownBlock) (hat : v1.ownBlock = v.ownBlock ∨ ∃ b, v1.ownBlock = some b ∧ W.heap.size ≤ b) (h : @FtA (ZI v) W g u la) : @FtA (ZI v1) w1 g u la := by
  obtain ⟨_, A, c, e, l, h⟩ := h
  exact ⟨hz, A, c, e, l, fun W2 hk => h W2 (ft_app hg hat W2 hk)⟩
theorem ftP_app {u : Value} {la : List PF} (hz : ∀ k, v1.ownBlock = some k → k < w1.heap.size) (hg : W.grownBy w1 v.ownBlock) (hat : v1.ownBlock = v.ownBlock ∨ ∃ b, v1.ownBlock = some b ∧ W.heap.size ≤ b) (h : @FtP (ZI v) W g u la) : @FtP (ZI v1) w1 g u la := by
  obtain ⟨_, A, c, e, l, h⟩ := h
  exact ⟨hz, A, c, e, l, fun W2 hk => h W2 (ft_app hg hat W2 hk)⟩
theorem GW.app (h : GW w g W s v l) (hown : OwnRow (KE g v W) 32 6 w1 w.heap.size v1 (l ++ [a])) (hb : Below w.heap.size w w1) (hg : W.grownBy w1 v.ownBlock) (hat : v1.ownBlock = v.ownBlock ∨ ∃ b, v1.ownBlock = some b ∧ W.heap.size ≤ b) : GW w g w1 s v1 (l ++ [a]) := by
  have hz : ∀ k, v1.ownBlock = some k → k < w1.heap.size := by
    obtain ⟨_, ho, _⟩ := hown
    exact own_lt ho
  obtain ⟨u1, u2, hOB, hA, hP⟩ := h.O
  exact ⟨⟨u1, u2, blk_grown hOB hg (h.K.ne_block hOB (by decide)), ftA_app hz hg hat hA, ftP_app hz hg hat hP⟩, hown.imp_ (fun _ _ ⟨x1, x2, e, k1, k2⟩ => ⟨x1, x2, e, ftA_app hz hg hat k1, ftP_app hz hg hat k2⟩), hb, h.G⟩
theorem GW.slice (h : GW w g W s v l) : ∃ A c, v = .slice A l.length c ∧ l.length ≤ c := h.K.slice_
theorem GW.zb (h : GW w g W s v l) : ∀ k, v.ownBlock = some k → k < W.heap.size := by
  obtain ⟨_, ho, _⟩ := h.K
  exact own_lt ho
theorem GW.zl (h : GW w g W s v l) : ∀ k, v.ownBlock = some k → w.heap.size ≤ k := by
  obtain ⟨_, ho, _⟩ := h.K
  exact own_base ho
end
theorem hpAD : Kd.Heap k72 := by
  unfold k72
  repeat (first | exact Kd.heap_int _ | exact Kd.heap_bool | apply Kd.heap_iso | apply Kd.heap_pair)
theorem hpPF : Kd.Heap k76 := by
  unfold k76
  repeat (first | exact Kd.heap_int _ | exact Kd.heap_bool | apply Kd.heap_iso | apply Kd.heap_pair)
section
variable {w W W' w1 : World} {g : Nat} {s s' : OS} {v v1 : Value} {l : List L} {a : L}
/-- What came in stays apart. -/
theorem GW.ke (h : GW w g W s v l) {A1 A2 : Option Addr} {c1 c2 : Nat} (hR : RdL w a.ad a.pf A1 c1 A2 c2) : KE g v W a [.int .i64 a.o, .int .i64 a.s, .int .i64 a.age, .bool a.ov, .slice A1 a.ad.length c1, .slice A2 a.pf.length c2] := by
  have hS : ∀ k, (k = g ∨ v.ownBlock = some k) → w.heap.size ≤ k := fun k hk => hk.elim (fun e => e ▸ h.G) (h.zl k)
  exact ⟨_, _, rfl, ⟨h.zb, A1, c1, rfl, hR.l1, Kd.C_kept_came hpAD hR.r1 h.HB hS⟩, ⟨h.zb, A2, c2, rfl, hR.l2, Kd.C_kept_came hpPF hR.r2 h.HB hS⟩⟩
theorem rdl_of {A1 A2 : Option Addr} {n1 n2 c1 c2 : Nat} {la : List AD} {lp : List PF} (hA : @FtA (ZI v) W g (.slice A1 n1 c1) la) (hP : @FtP (ZI v) W g (.slice A2 n2 c2) lp) : RdL W la lp A1 c1 A2 c2 := by
  letI := ZI v
  exact ⟨hA.rd.C.1, hA.rd.C.2, hP.rd.C.1, hP.rd.C.2⟩
def zL : L := ⟨0, 0, 0, false, [], []⟩
theorem GW.at_ (h : GW w g W s v l) (i : Int) (h0 : 0 ≤ i) (h1 : i < l.length) : ∃ ad c A1 c1 A2 c2, ∃ a ∈ l, v = .slice (some ad) l.length c ∧ l.length ≤ c ∧ RdL W a.ad a.pf A1 c1 A2 c2 ∧ W.cell? (ad.add (i.toNat * 6)) = some (.int .i64 a.o) ∧ W.cell? ⟨(ad.add (i.toNat * 6)).block, (ad.add (i.toNat * 6)).off + 1, none⟩ = some (.int .i64 a.s) ∧ W.cell? ⟨(ad.add (i.toNat * 6)).block, (ad.add (i.toNat * 6)).off + 2, none⟩ = some (.int .i64 a.age) ∧ W.cell? ⟨(ad.add (i.toNat * 6)).block, (ad.add (i.toNat * 6)).off + 3, none⟩ = some (.bool a.ov) ∧ W.cell? ⟨(ad.add (i.toNat * 6)).block, (ad.add (i.toNat * 6)).off + 4, none⟩ = some (.slice A1 a.ad.length c1) ∧ W.cell? ⟨(ad.add (i.toNat * 6)).block, (ad.add (i.toNat * 6)).off + 5, none⟩ = some (.slice A2 a.pf.length c2) := by
  obtain ⟨A, c, hv, hc, hr⟩ := h.K.reads
  obtain ⟨ad, cs, rfl, _, ⟨v1, v2, rfl, hA, hP⟩, hcell⟩ := ReadsRow.get_ hr zL i h0 h1
  have hm : l.getD i.toNat zL ∈ l := by
    have hn : i.toNat < l.length := by omega
    rw [List.getD_eq_getElem?_getD, List.getElem?_eq_getElem hn]
    exact List.getElem_mem hn
  letI := ZI v
  obtain ⟨A1, c1, rfl, l1, k1⟩ := hA.rd
  obtain ⟨A2, c2, rfl, l2, k2⟩ := hP.rd
  refine ⟨ad, c, A1, c1, A2, c2, _, hm, hv, hc, ⟨l1, k1, l2, k2⟩, ?_, ?_, ?_, ?_, ?_, ?_⟩
  · exact hcell 0 _ rfl
  · rw [← add_field _ _ _ (by decide)]
    exact hcell 1 _ rfl
  · rw [← add_field _ _ _ (by decide)]
    exact hcell 2 _ rfl
  · rw [← add_field _ _ _ (by decide)]
    exact hcell 3 _ rfl
  · rw [← add_field _ _ _ (by decide)]
    exact hcell 4 _ rfl
  · rw [← add_field _ _ _ (by decide)]
    exact hcell 5 _ rfl
end
/-- A row of an originator, as an element. -/
theorem GW.start {w W : World} {g : Nat} {s : OS} (hO : @Orig (ZI (.slice none 0 0)) W g s) (hb : Below w.heap.size w W) (hg : w.heap.size ≤ g) : GW w g W s (.slice none 0 0) [] := ⟨hO, OwnRow.none_ _ _ _ _ _, hb, hg⟩
end Go.Proofs.Ytdkfhlfojleejaa.HLsc
