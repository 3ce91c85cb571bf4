/- What the reference writes for a number of 0 to 999; no condition. -/
import Derived.Test.YtdccbpeajpnkjaaGreatDoorPuDig
import Derived.Test.YtdccbpeajpnkjaaGreatDoorPr12
namespace Go.Proofs.YtdccbpeajpnkjaaGreatDoor.Pr
open Go.RowKit Go.Proofs.YtdccbpeajpnkjaaGreatDoorW.PrintWords Go.Proofs.YtdccbpeajpnkjaaGreatDoorW.PrintLast Go.Proofs.YtdccbpeajpnkjaaGreatDoorW.PrintMore
/-- what the reference writes for a number under 1000. -/
theorem decimal_one {n : Nat} (h : n < 10) (k : Nat) : modcertref24_decimal.f (k + 1) (n : Int) = some ⟨[dg n].toArray⟩ := by
  rw [modcertref24_decimal.f, if_pos (by omega)]
  unfold strOfNums dg
  rw [show wrap64 (48 + (n : Int)) % 256 = ((48 + n : Nat) : Int) from by unfold wrap64; omega]
  rfl
theorem decimal_step {n k : Nat} {x y : List UInt8} (h : ¬ n < 10) (hn : n < 1000) (hx : modcertref24_decimal.f k ((n / 10 : Nat) : Int) = some ⟨x.toArray⟩) (hy : modcertref24_decimal.f k ((n % 10 : Nat) : Int) = some ⟨y.toArray⟩) (hl : x.length + y.length ≤ 100) :
    modcertref24_decimal.f (k + 1) (n : Int) = some ⟨(x ++ y).toArray⟩ := by
  rw [modcertref24_decimal.f, if_neg (by omega), show wrap64 (Int.tdiv (n : Int) 10) = ((n / 10 : Nat) : Int) from by rw [Int.tdiv_eq_ediv_of_nonneg (by omega)]; unfold wrap64; omega, hx, Option.bind_some, show Int.tmod (n : Int) 10 = ((n % 10 : Nat) : Int) from by rw [Int.tmod_eq_emod_of_nonneg (by omega)]; omega, hy, Option.bind_some, arr_size, arr_size, if_pos (by omega), app_arr]
theorem decimal_digs {n : Nat} (h : n < 1000) (k : Nat) : modcertref24_decimal.f (k + 3) (n : Int) = some ⟨(digs n).toArray⟩ := by
  unfold digs
  by_cases h1 : n < 10
  · rw [if_pos h1]; exact decimal_one h1 (k + 2)
  · rw [if_neg h1]
    by_cases h2 : n < 100
    · rw [if_pos h2]
      exact decimal_step (x := [dg (n / 10)]) (y := [dg (n % 10)]) h1 h (decimal_one (by omega) (k + 1)) (decimal_one (by omega) (k + 1)) (by simp)
    · rw [if_neg h2]
      exact decimal_step (x := [dg (n / 100), dg (n / 10 % 10)]) (y := [dg (n % 10)]) h1 h
        (decimal_step (x := [dg (n / 100)]) (y := [dg (n / 10 % 10)]) (by omega) (by omega) (by rw [show n / 10 / 10 = n / 100 by omega]; exact decimal_one (by omega) k) (decimal_one (by omega) k) (by simp)) (decimal_one (by omega) (k + 1)) (by simp)
end Go.Proofs.YtdccbpeajpnkjaaGreatDoor.Pr
