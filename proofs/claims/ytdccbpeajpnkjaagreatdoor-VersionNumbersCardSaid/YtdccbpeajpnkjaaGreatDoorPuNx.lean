/- What version.Next answers, without fuel; no condition. -/
import Derived.Test.YtdccbpeajpnkjaaGreatDoorPuCmp
import Derived.Test.YtdccbpeajpnkjaaGreatDoorPr2
namespace Go.Proofs.YtdccbpeajpnkjaaGreatDoor.Pr
open Go.RowKit Go.Proofs.YtdccbpeajpnkjaaGreatDoorW.PrintWords Go.Proofs.YtdccbpeajpnkjaaGreatDoorW.PrintLast Go.Proofs.YtdccbpeajpnkjaaGreatDoorW.PrintMore
theorem valid_iff {a b c : Int} : validB a b c = true ↔ (0 ≤ a ∧ a ≤ 999) ∧ (0 ≤ b ∧ b ≤ 999) ∧ (0 ≤ c ∧ c ≤ 999) := by
  unfold validB okPart
  simp only [Bool.and_eq_true, decide_eq_true_eq]
def nextB (a0 a1 a2 l : Int) : Int × Int × Int × Int :=
  if validB a0 a1 a2 = true ∧ 0 ≤ l ∧ l ≤ 2 then
    (if l = 0 ∧ validB a0 a1 (a2 + 1) = true then (a0, a1, a2 + 1, 0)
     else if l ≠ 2 ∧ validB a0 (a1 + 1) 0 = true then (a0, a1 + 1, 0, 0)
     else if validB (a0 + 1) 0 0 = true then (a0 + 1, 0, 0, 0) else (0, 0, 0, 2))
  else (0, 0, 0, 1)
theorem next_tail (k : Nat) (a0 a1 a2 l : Int) (h0 : 0 ≤ a0 ∧ a0 ≤ 999) (h1 : 0 ≤ a1 ∧ a1 ≤ 999) : version_Next.j1 (k + 1) l a0 a1 a2 = some (if l ≠ 2 ∧ validB a0 (a1 + 1) 0 = true then (a0, a1 + 1, 0, 0) else if validB (a0 + 1) 0 0 = true then (a0 + 1, 0, 0, 0) else (0, 0, 0, 2)) := by
  rw [version_Next.j1]
  have w0 : wrap64 (a0 + 1) = a0 + 1 := by unfold wrap64; omega
  have w1 : wrap64 (a1 + 1) = a1 + 1 := by unfold wrap64; omega
  rw [w0, w1]
  unfold version_Valid.f
  simp only [Option.bind_some]
  by_cases hl : l = 2
  · rw [if_pos hl, if_neg (show ¬ (l ≠ 2 ∧ validB a0 (a1 + 1) 0 = true) from fun h => h.1 hl)]
    split <;> rfl
  · rw [if_neg hl]
    by_cases hv : validB a0 (a1 + 1) 0 = true
    · rw [if_pos hv, if_pos (show l ≠ 2 ∧ validB a0 (a1 + 1) 0 = true from ⟨hl, hv⟩)]
    · rw [if_neg hv, if_neg (show ¬ (l ≠ 2 ∧ validB a0 (a1 + 1) 0 = true) from fun h => hv h.2)]
      split <;> rfl
theorem next_some (k : Nat) (a0 a1 a2 l : Int) : version_Next.f (k + 2) a0 a1 a2 l = some (nextB a0 a1 a2 l) := by
  unfold version_Next.f version_known.f
  rw [show version_Valid.f a0 a1 a2 = some (validB a0 a1 a2) from rfl, Option.bind_some]
  unfold nextB
  by_cases hv : validB a0 a1 a2 = true
  · have hi := valid_iff.1 hv
    rw [if_pos hv]
    by_cases h0 : l ≥ 0
    · rw [if_pos h0, Option.bind_some]
      by_cases h2 : l ≤ 2
      · rw [decide_eq_true h2, if_pos (show validB a0 a1 a2 = true ∧ 0 ≤ l ∧ l ≤ 2 from ⟨hv, h0, h2⟩)]
        rw [version_Next.j0, if_neg (by decide), next_tail k a0 a1 _ l hi.1 hi.2.1, next_tail k a0 a1 _ l hi.1 hi.2.1]
        rw [show wrap64 (a2 + 1) = a2 + 1 from by unfold wrap64; omega]
        rw [show version_Valid.f a0 a1 (a2 + 1) = some (validB a0 a1 (a2 + 1)) from rfl, Option.bind_some]
        by_cases hz : l = 0
        · rw [if_pos hz]
          by_cases hw : validB a0 a1 (a2 + 1) = true
          · rw [if_pos hw, if_pos (show l = 0 ∧ validB a0 a1 (a2 + 1) = true from ⟨hz, hw⟩)]
          · rw [if_neg hw, if_neg (show ¬ (l = 0 ∧ validB a0 a1 (a2 + 1) = true) from fun h => hw h.2)]
        · rw [if_neg hz, if_neg (show ¬ (l = 0 ∧ validB a0 a1 (a2 + 1) = true) from fun h => hz h.1)]
      · rw [decide_eq_false h2, if_neg (show ¬ (validB a0 a1 a2 = true ∧ 0 ≤ l ∧ l ≤ 2) from fun h => h2 h.2.2), version_Next.j0, if_pos (by decide)]
    · rw [if_neg h0, Option.bind_some, if_neg (show ¬ (validB a0 a1 a2 = true ∧ 0 ≤ l ∧ l ≤ 2) from fun h => h0 h.2.1), version_Next.j0, if_pos (by decide)]
  · rw [if_neg hv, if_neg (show ¬ (validB a0 a1 a2 = true ∧ 0 ≤ l ∧ l ≤ 2) from fun h => hv h.1), version_Next.j0, if_pos rfl]
end Go.Proofs.YtdccbpeajpnkjaaGreatDoor.Pr
