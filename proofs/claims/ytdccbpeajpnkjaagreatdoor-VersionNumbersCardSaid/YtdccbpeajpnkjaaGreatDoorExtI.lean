/- Contracts of strconv.Itoa and of strings.LastIndex (at one byte), in the form that the printed texts take; conditions: where the function '.f' tells 'some'. -/
import Derived.Lib.AppendIntMem
import Derived.Lib.ItoaLen
import Derived.Test.YtdccbpeajpnkjaaGreatDoorPr0
import Derived.Test.YtdccbpeajpnkjaaGreatDoorGlob
import Derived.Test.YtdccbpeajpnkjaaGreatDoorShelf
namespace Go.Proofs.YtdccbpeajpnkjaaGreatDoor.Pr
open Go.RowKit Go.Proofs.YtdccbpeajpnkjaaGreatDoorW.PrintWords Go.Proofs.YtdccbpeajpnkjaaGreatDoorW.PrintLast Go.Proofs.YtdccbpeajpnkjaaGreatDoorW.PrintMore
/-- the text of a number. -/
def numText (n : Int) : ByteArray := ⟨(Lib.itoa n).toArray⟩
theorem numText_size (n : Int) : (numText n).size = (Lib.itoa n).length := rfl
def strconv_Itoa.f (a0 : Int) : Option ByteArray := if -9223372036854775808 ≤ a0 ∧ a0 ≤ 9223372036854775807 then some (numText a0) else none
theorem strconv_Itoa.calls (a0 : Int) (r : ByteArray) (w : World) (h : strconv_Itoa.f a0 = some r) (hG : Gd w) :
    Calls Tryz.prog 33 #[.int .i64 a0] w fun e w' => e = .returned (.string r) ∧ Below w.heap.size w w' := by
  unfold strconv_Itoa.f at h
  split at h
  · rename_i hs
    obtain rfl := Option.some.inj h
    refine (Tryz.strconv_Itoa a0 hs.1 hs.2 w hG.2).mono ?_
    rintro e w' ⟨rfl, k, os, rfl⟩
    exact ⟨rfl, Lib.below_grow _ w (Nat.le_refl _) k os⟩
  · cases h
def strings_LastIndex.f (a0 a1 : ByteArray) : Option Int := if h : a1.size = 1 ∧ a0.size < 4611686018427387904 then some (Lib.lastIndexByte a0 ((a1[0]'(by omega)).toNat : Int)) else none
theorem strings_LastIndex.calls (a0 a1 : ByteArray) (r : Int) (w : World) (h : strings_LastIndex.f a0 a1 = some r) :
    Calls Tryz.prog 30 #[.string a0, .string a1] w fun e w' => e = .returned (.int .i64 r) ∧ Drawn0 w w' := by
  unfold strings_LastIndex.f at h
  split at h
  · rename_i hs
    obtain rfl := Option.some.inj h
    refine (Tryz.strings_LastIndex_one a0 a1 hs.1 hs.2 w).mono ?_
    rintro e w' ⟨rfl, rfl⟩
    exact ⟨rfl, Drawn0.refl _⟩
  · cases h
end Go.Proofs.YtdccbpeajpnkjaaGreatDoor.Pr
