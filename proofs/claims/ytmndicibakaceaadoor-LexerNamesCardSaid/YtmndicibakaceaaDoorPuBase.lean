/- Plain facts on what the printed functions of layer 3 answer: the last place of a byte, positions. -/
import Derived.Test.YtmndicibakaceaaDoorExtE
namespace Go.Proofs.YtmndicibakaceaaDoor.Pr
open Go.RowKit Go.Proofs.YtmndicibakaceaaDoorW.PrintWords Go.Proofs.YtmndicibakaceaaDoorW.PrintLast Go.Proofs.YtmndicibakaceaaDoorW.PrintMore
theorem wr64 {n : Int} (h : -1000000000000 ≤ n ∧ n ≤ 1000000000000) : wrap64 n = n := by unfold wrap64; omega
/-- the last place below n at which c stands, or -1. -/
def lastN (s : ByteArray) (c : Int) : Nat → Int
  | 0 => -1
  | n + 1 => if bt s n = c then n else lastN s c n
theorem lastN_range (s : ByteArray) (c : Int) : ∀ n : Nat, -1 ≤ lastN s c n ∧ lastN s c n < n
  | 0 => by unfold lastN; omega
  | n + 1 => by
    have := lastN_range s c n
    unfold lastN; split <;> omega
theorem last_l0 (s : ByteArray) (c : Int) (hs : s.size ≤ 1000000000) : ∀ n : Nat, n ≤ s.size → bytealg_LastIndexByteString.l0 (n + 1) s c ((n : Int) - 1) = some (lastN s c n)
  | 0, _ => by unfold bytealg_LastIndexByteString.l0 lastN; rw [if_neg (by omega)]
  | n + 1, h => by
    have ih := last_l0 s c hs n (by omega)
    unfold bytealg_LastIndexByteString.l0 lastN
    rw [if_pos (by omega), if_pos (by omega), if_pos (by omega), show ((n + 1 : Nat) : Int) - 1 = (n : Int) by omega]
    split
    · rfl
    · rw [show wrap64 ((n : Int) - 1) = (n : Int) - 1 by unfold wrap64; omega]; exact ih
theorem last_some (s : ByteArray) (c : Int) (hs : s.size ≤ 1000000000) : strings_LastIndexByte.f (s.size + 1) s c = some (lastN s c s.size) := by
  unfold strings_LastIndexByte.f bytealg_LastIndexByteString.f
  rw [show wrap64 ((s.size : Int) - 1) = (s.size : Int) - 1 by unfold wrap64; omega, last_l0 s c hs _ (Nat.le_refl _)]; rfl
end Go.Proofs.YtmndicibakaceaaDoor.Pr
