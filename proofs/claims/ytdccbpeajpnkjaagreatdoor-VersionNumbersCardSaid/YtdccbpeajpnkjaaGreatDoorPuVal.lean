/- The reference's Valid is the program's; no condition. -/
import Derived.Test.YtdccbpeajpnkjaaGreatDoorExtV
import Derived.Test.YtdccbpeajpnkjaaGreatDoorPr8
namespace Go.Proofs.YtdccbpeajpnkjaaGreatDoor.Pr
open Go.RowKit Go.Proofs.YtdccbpeajpnkjaaGreatDoorW.PrintWords Go.Proofs.YtdccbpeajpnkjaaGreatDoorW.PrintLast Go.Proofs.YtdccbpeajpnkjaaGreatDoorW.PrintMore
theorem valid_same (a b c : Int) : modcertref24_Valid.f a b c = some (validB a b c) := by
  unfold modcertref24_Valid.f modcertref24_part.f validB okPart
  by_cases h0 : a ≥ 0
  · rw [if_pos h0, Option.bind_some, decide_eq_true (show 0 ≤ a from h0), Bool.true_and]
    by_cases h1 : a ≤ 999
    · rw [decide_eq_true h1, if_pos rfl, Bool.true_and]
      by_cases h2 : b ≥ 0
      · rw [if_pos h2, Option.bind_some, decide_eq_true (show 0 ≤ b from h2), Bool.true_and]
        by_cases h3 : b ≤ 999
        · rw [decide_eq_true h3, if_pos rfl, Bool.true_and]
          by_cases h4 : c ≥ 0
          · rw [if_pos h4, Option.bind_some, decide_eq_true (show 0 ≤ c from h4), Bool.true_and]
          · rw [if_neg h4, Option.bind_some, decide_eq_false (show ¬ 0 ≤ c from h4)]; rfl
        · rw [decide_eq_false h3]; rfl
      · rw [if_neg h2, Option.bind_some, decide_eq_false (show ¬ 0 ≤ b from h2)]; rfl
    · rw [decide_eq_false h1]; rfl
  · rw [if_neg h0, Option.bind_some, decide_eq_false (show ¬ 0 ≤ a from h0)]; rfl
end Go.Proofs.YtdccbpeajpnkjaaGreatDoor.Pr
