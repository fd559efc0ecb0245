/-
  LsaPurges: the plain law.
-/
import Derived.Test.YtmknjjfdlkgidaaHLscGLsaPurges
import Derived.Test.YtmknjjfdlkgidaaLsaN
namespace Go.Proofs.Ytmknjjfdlkgidaa.HLsc
open Go.RowKit Go.Proofs.YtmknjjfdlkgidaaW.PrintWords Go.Proofs.YtmknjjfdlkgidaaW.PrintLast Go.Proofs.YtmknjjfdlkgidaaW.PrintMore
open Go.Proofs.Ytmknjjfdlkgidaa.LM Go.Proofs.Ytmknjjfdlkgidaa.LS
set_option linter.unusedVariables false
set_option linter.unusedSimpArgs false
theorem row_other {o o' : Int} : ∀ {l : List AD} {p : Option AD}, (∀ x ∈ l, x.f0 ≠ o') → Row (adOk o) adLt p l → Row (adOk o') adLt p l
  | [], _, _, _ => trivial
  | x :: l, p, h, hr => ⟨⟨hr.1.1, hr.1.2.1, h x (by simp), hr.1.2.2.2⟩, hr.2.1, row_other (fun y hy => h y (by simp [hy])) hr.2.2⟩
theorem newer_purge {o s : Int} {b : L} (hp : VL o s 3600 false [] []) (hb : Valid b) (ho : b.o = o) : newer ⟨o, s, 3600, false, [], []⟩ b = if b.s = s then (if b.age = 3600 then 0 else 1) else if s < b.s then -1 else 1 := by
  unfold newer
  rw [if_pos (show Valid ⟨o, s, 3600, false, [], []⟩ ∧ Valid b from ⟨hp, hb⟩)]
  show (if s = b.s then (if ((3600 : Int) = 3600 ↔ b.age = 3600) then cmpE (yg ⟨o, s, 3600, false, [], []⟩) (yg b) else if (3600 : Int) = 3600 then (1 : Int) else -1) else if s < b.s then -1 else 1) = _
  by_cases hs : s = b.s
  · rw [if_pos hs, if_pos hs.symm]
    by_cases c : b.age = 3600
    · rw [if_pos (show ((3600 : Int) = 3600 ↔ b.age = 3600) from ⟨fun _ => c, fun _ => rfl⟩), if_pos c]
      obtain ⟨h1, h2, h3⟩ := hb.purge c
      have e : yg ⟨o, s, 3600, false, [], []⟩ = yg b := LS.L.ext' ho.symm hs rfl h1.symm h2.symm h3.symm
      rw [e]
      exact LC.cmp_self _
    · rw [if_neg (show ¬ ((3600 : Int) = 3600 ↔ b.age = 3600) from fun h => c (h.1 rfl)), if_neg c, if_pos rfl]
  · rw [if_neg hs, if_neg (show ¬ b.s = s from fun e => hs e.symm)]
theorem purges_end (k : Nat) (o s age : Int) (ov : Bool) (ad : List AD) (pf : List PF) (b : L) (i : Int) (hi : i = (b.ad.length : Int)) (hk : 200000000 ≤ k) (ha : VL o s age ov ad pf) (hb : Valid b) (ho : b.o = o) (hG : G32 pf) (hG2 : G32 b.pf) :
    waypointlaw32_LsaPurges.l0 k i o s age ov ad pf b.o b.s b.age b.ov b.ad b.pf = some true := by
  obtain ⟨k, rfl⟩ : ∃ j, k = j + 4 := ⟨k - 4, by omega⟩
  have hp := purge_valid ha
  simp only [waypointlaw32_LsaPurges.l0]
  rw [if_neg (by omega), purge_Eq (k + 3) o s age ov ad pf hG (by omega), if_pos ha]
  simp only [Option.bind_some, if_true]
  rw [valid_eq (k + 3) o s 3600 false [] [] g32_nil (by omega), decide_eq_true hp]
  simp only [Option.bind_some, waypointlaw32_LsaPurges.j2, Bool.not_true, Bool.false_eq_true, if_false, waypointlaw32_LsaPurges.j3, waypointlaw32_LsaPurges.j4]
  have n1 : ∀ m, 100000001 ≤ m → lsa_Newer.f m o s 3600 false [] [] b.o b.s b.age b.ov b.ad b.pf = some (newer ⟨o, s, 3600, false, [], []⟩ b) := fun m hm => newer_eq m ⟨o, s, 3600, false, [], []⟩ b g32_nil hG2 hm
  rw [n1 (k + 1) (by omega), n1 k (by omega), newer_purge hp hb ho]
  simp only [Option.bind_some]
  by_cases h1 : b.s = s
  · by_cases h2 : b.age = 3600
    · simp [h1, h2]
    · simp [h1, h2]
  · by_cases h2 : b.s > s
    · simp [h1, h2]
    · have h3 : ¬ s < b.s := by omega
      simp [h1, h2, h3]
theorem purges_l0 (o s age : Int) (ov : Bool) (ad : List AD) (pf : List PF) (b : L) (hl : b.ad.length ≤ 300) (hG : G32 pf) (hG2 : G32 b.pf) (ha : VL o s age ov ad pf) (o' : Int) (hb : Valid { b with o := o' }) (ho : b.o = o) : ∀ (suf pre : List AD) (k : Nat), b.ad = pre ++ suf → suf.length + 200000000 ≤ k → (∀ x ∈ pre, x.f0 ≠ o) →
    waypointlaw32_LsaPurges.l0 k (pre.length : Int) o s age ov ad pf b.o b.s b.age b.ov b.ad b.pf = some true
  | [], pre, k, he, hk, hp => by
    have : b.ad.length = pre.length := by rw [he]; simp
    have hbv : Valid b := ⟨by rw [ho]; exact ha.o, hb.s, hb.age, hb.nad, hb.npf, by rw [ho]; exact row_other (fun x hx => hp x (by rw [he] at hx; simpa using hx)) hb.ad, hb.pf, hb.purge⟩
    exact purges_end k o s age ov ad pf b _ (by omega) (by simp at hk; omega) ha hbv ho hG hG2
  | x :: suf, pre, k, he, hk, hp => by
    obtain ⟨k, rfl⟩ : ∃ j, k = j + 1 := ⟨k - 1, by omega⟩
    have hlen : b.ad.length = pre.length + suf.length + 1 := by rw [he]; simp; omega
    have hx : rd_T43 b.ad (pre.length : Int) = x := by rw [he]; exact rdA pre suf x
    simp only [List.length_cons] at hk
    simp only [waypointlaw32_LsaPurges.l0]
    rw [if_pos (by omega), if_pos (by omega), hx]
    refine ite_both (fun _ => rfl) (fun c => ?_)
    rw [w64 (by omega) (by omega)]
    have ih := purges_l0 o s age ov ad pf b hl hG hG2 ha o' hb ho suf (pre ++ [x]) k (by rw [he]; simp) (by omega) (fun y hy => by
      rcases List.mem_append.1 hy with h | h
      · exact hp y h
      · rw [List.mem_singleton.1 h, ← ho]; exact c)
    rw [show (((pre ++ [x]).length : Nat) : Int) = pre.length + 1 by simp] at ih
    exact ih
theorem waypointlaw32_LsaPurges.goal : waypointlaw32_LsaPurges.Goal := by
  intro a0 a1 a2 a3 a4 a5 b0 b1 b2 b3 b4 b5 ga gb
  have Ga := g32_of ga
  have Gb := g32_of gb
  refine ⟨300000002, ?_⟩
  obtain ⟨k, hk⟩ : ∃ k : Nat, k = 300000000 := ⟨_, rfl⟩
  rw [show (300000002 : Nat) = k + 2 by omega]
  have hk' : 300000000 ≤ k := by omega
  clear hk
  have jt : waypointlaw32_LsaPurges.j0 (k + 2) true a0 a1 a2 a3 a4 a5 b0 b1 b2 b3 b4 b5 = some true := by simp only [waypointlaw32_LsaPurges.j0, if_true]
  unfold waypointlaw32_LsaPurges.f waypointlaw32_awake.f
  simp only [Option.bind_some, if_true, few_eq]
  refine ite_both (fun f1 => ite_both (fun f2 => ?_) (fun _ => jt)) (fun _ => jt)
  have f2' := of_decide_eq_true f2
  rw [rvalid_eq (k + 2) a0 a1 a2 a3 a4 a5 Ga (by omega), rvalid_eq (k + 2) b0 b1 b2 b3 b4 b5 Gb (by omega)]
  simp only [Option.bind_some]
  refine ite_both (fun v1 => ?_) (fun _ => jt)
  by_cases v2 : VL b0 b1 b2 b3 b4 b5
  · rw [decide_eq_true v2]
    simp only [waypointlaw32_LsaPurges.j0, Bool.not_true, Bool.false_eq_true, if_false]
    have h := purges_l0 a0 a1 a2 a3 a4 a5 ⟨a0, b1, b2, b3, b4, b5⟩ (show b4.length ≤ 300 from f2'.1) Ga Gb (of_decide_eq_true v1) b0 v2 rfl b4 [] (k + 1) rfl (by omega) (fun _ h => by cases h)
    exact h
  · rw [decide_eq_false v2]
    exact jt
end Go.Proofs.Ytmknjjfdlkgidaa.HLsc
