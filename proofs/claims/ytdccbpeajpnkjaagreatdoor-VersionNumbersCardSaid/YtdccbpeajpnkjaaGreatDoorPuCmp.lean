/- The order of numbers, told of integers; no condition. -/
import Derived.Test.YtdccbpeajpnkjaaGreatDoorExtV
namespace Go.Proofs.YtdccbpeajpnkjaaGreatDoor.Pr
open Go.RowKit Go.Proofs.YtdccbpeajpnkjaaGreatDoorW.PrintWords Go.Proofs.YtdccbpeajpnkjaaGreatDoorW.PrintLast Go.Proofs.YtdccbpeajpnkjaaGreatDoorW.PrintMore
def lexLt (a0 a1 a2 b0 b1 b2 : Int) : Prop := a0 < b0 ∨ (a0 = b0 ∧ (a1 < b1 ∨ (a1 = b1 ∧ a2 < b2)))
theorem cmpI_pos (x y : Int) : 0 < cmpI x y ↔ y < x := by
  unfold cmpI
  split
  · omega
  · split <;> omega
theorem cmpI_neg (x y : Int) : cmpI x y < 0 ↔ x < y := by
  unfold cmpI
  split
  · omega
  · split <;> omega
theorem cmpI_zero (x y : Int) : cmpI x y = 0 ↔ x = y := by
  unfold cmpI
  split
  · omega
  · split <;> omega
theorem cmpV_pos (a0 a1 a2 b0 b1 b2 : Int) : 0 < cmpV a0 a1 a2 b0 b1 b2 ↔ lexLt b0 b1 b2 a0 a1 a2 := by
  have p0 := cmpI_pos a0 b0; have p1 := cmpI_pos a1 b1; have p2 := cmpI_pos a2 b2
  have z0 := cmpI_zero a0 b0; have z1 := cmpI_zero a1 b1
  unfold cmpV lexLt
  split
  · omega
  · split <;> omega
theorem cmpV_neg (a0 a1 a2 b0 b1 b2 : Int) : cmpV a0 a1 a2 b0 b1 b2 < 0 ↔ lexLt a0 a1 a2 b0 b1 b2 := by
  have p0 := cmpI_neg a0 b0; have p1 := cmpI_neg a1 b1; have p2 := cmpI_neg a2 b2
  have z0 := cmpI_zero a0 b0; have z1 := cmpI_zero a1 b1
  unfold cmpV lexLt
  split
  · omega
  · split <;> omega
end Go.Proofs.YtdccbpeajpnkjaaGreatDoor.Pr
