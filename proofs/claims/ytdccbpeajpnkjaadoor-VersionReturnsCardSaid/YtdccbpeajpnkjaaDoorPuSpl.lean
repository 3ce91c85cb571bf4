/- The parts of a text between a byte, told of lists of bytes; no condition. -/
import Derived.Lib.SplitLaws
import Derived.Test.YtdccbpeajpnkjaaDoorGlob
import Derived.Test.YtdccbpeajpnkjaaDoorWMore
namespace Go.Proofs.YtdccbpeajpnkjaaDoor.Pr
open Go.RowKit Go.Proofs.YtdccbpeajpnkjaaDoorW.PrintWords Go.Proofs.YtdccbpeajpnkjaaDoorW.PrintLast Go.Proofs.YtdccbpeajpnkjaaDoorW.PrintMore
/-- a byte put ahead of the first part. -/
def consHead (x : UInt8) : List (List UInt8) → List (List UInt8)
  | [] => [[x]]
  | h :: t => (x :: h) :: t
/-- the parts between the bytes c. -/
def splitL (c : UInt8) : List UInt8 → List (List UInt8)
  | [] => [[]]
  | x :: l => if x = c then [] :: splitL c l else consHead x (splitL c l)
theorem splitL_ne (c : UInt8) : ∀ l, splitL c l ≠ []
  | [] => by simp [splitL]
  | x :: l => by
    unfold splitL
    split
    · simp
    · cases splitL c l <;> simp [consHead]
theorem splitK_eq (c : UInt8) (k : Nat) (l : List UInt8) : Lib.splitK [c] 0 (k + 1) (c :: l) = [] :: Lib.splitK [c] 0 k l := by
  have h : Lib.index (c :: l) [c] = 0 := by rw [Lib.index]; simp [List.isPrefixOf]
  rw [Lib.splitK, h]; rfl
theorem splitK_ne (c x : UInt8) (hx : x ≠ c) : ∀ (k : Nat) (l : List UInt8), Lib.splitK [c] 0 k (x :: l) = consHead x (Lib.splitK [c] 0 k l)
  | 0, l => rfl
  | k + 1, l => by
    have hp : ([c] : List UInt8).isPrefixOf (x :: l) = false := by simp [List.isPrefixOf, Ne.symm hx]
    have hi : Lib.index (x :: l) [c] = if Lib.index l [c] == -1 then -1 else Lib.index l [c] + 1 := by rw [Lib.index, hp]; simp
    have hge := Lib.index_ge l [c]
    rw [Lib.splitK, Lib.splitK, hi]
    by_cases hm : Lib.index l [c] = -1
    · rw [hm]; rfl
    · rw [if_neg (show ¬ (Lib.index l [c] == -1) = true by simpa using hm), if_neg (by rw [beq_iff_eq]; omega)]
      obtain ⟨j, hj⟩ : ∃ j : Nat, Lib.index l [c] = j := ⟨(Lib.index l [c]).toNat, by omega⟩
      rw [hj, show ((j : Int) + 1).toNat = j + 1 by omega, Int.toNat_natCast]
      show _ = (x :: _) :: _
      simp only [List.length_cons, List.length_nil, Nat.add_zero, Nat.zero_add]
      rw [List.take_succ_cons, List.drop_succ_cons]
theorem splitK_list (c : UInt8) : ∀ l : List UInt8, Lib.splitK [c] 0 (l.count c) l = splitL c l
  | [] => rfl
  | x :: l => by
    unfold splitL
    by_cases hx : x = c
    · subst hx
      rw [if_pos rfl, List.count_cons_self, splitK_eq, splitK_list x l]
    · rw [if_neg hx, List.count_cons_of_ne (by simpa using hx), splitK_ne c x hx, splitK_list c l]
theorem splitB_list (c : UInt8) (s : ByteArray) : (Lib.splitB ⟨#[c]⟩ 0 (Lib.countB s ⟨#[c]⟩) s).map (·.data.toList) = splitL c s.data.toList := by
  rw [Lib.splitB_data]
  have h : Lib.countB s ⟨#[c]⟩ = s.data.toList.count c := by
    unfold Lib.countB
    exact Lib.count_one c s.data.toList
  rw [h]
  exact splitK_list c s.data.toList
end Go.Proofs.YtdccbpeajpnkjaaDoor.Pr
