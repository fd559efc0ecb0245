/-
  For every number e, console.Name and the reference return the same name; that of OK is "ok".
-/
import Derived.Test.YtddklmefighilaaHNamesGConsoleNames
namespace Go.Proofs.Ytddklmefighilaa.HNames
open Go.RowKit Go.Proofs.YtddklmefighilaaW.PrintWords Go.Proofs.YtddklmefighilaaW.PrintLast Go.Proofs.YtddklmefighilaaW.PrintMore
theorem ref_eq (a0 : Int) : waypointref58_Name.f a0 = if a0 < 0 then some (⟨#[]⟩ : ByteArray) else if a0 ≥ 17 then some (⟨#[]⟩ : ByteArray) else some (rdOf ByteArray.empty console_Name.list_ a0) := by
  unfold waypointref58_Name.f
  simp only [Option.bind_some, List.length_cons, List.length_nil]
  by_cases h0 : a0 < 0
  · rw [if_pos h0, if_pos h0]
  · rw [if_neg h0, if_neg h0]
    by_cases h1 : a0 ≥ 17
    · rw [if_pos (by omega), if_pos h1]
    · rw [if_neg (by omega), if_neg h1, if_pos (by omega), if_pos (by omega)]
      rfl
theorem waypointlaw58_ConsoleNames.goal : waypointlaw58_ConsoleNames.Goal := by
  intro a0 _
  unfold waypointlaw58_ConsoleNames.f
  rw [show console_Name.f 0 = some (⟨#[111, 107]⟩ : ByteArray) from rfl]
  simp only [Option.bind_some]
  rw [if_pos (by kernel_rfl), ref_eq]
  have h : ∃ r, console_Name.f a0 = some r := by unfold console_Name.f; split; exact ⟨_, rfl⟩; split <;> exact ⟨_, rfl⟩
  obtain ⟨r, hr⟩ := h
  rw [show (if a0 < 0 then some (⟨#[]⟩ : ByteArray) else if a0 ≥ 17 then some (⟨#[]⟩ : ByteArray) else some (rdOf ByteArray.empty console_Name.list_ a0)) = console_Name.f a0 from rfl, hr]
  simp
end Go.Proofs.Ytddklmefighilaa.HNames
