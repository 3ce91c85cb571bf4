/- Plain facts on bytes, words and names, told of lists. -/
import Derived.Lib.Bytes2
import Derived.Lib.IndexBytes
import Derived.Test.YtdccbpeajpnkjaaDoorExtB
import Derived.Test.YtdccbpeajpnkjaaDoorExtK
import Derived.Test.YtdccbpeajpnkjaaDoorPr3
namespace Go.Proofs.YtdccbpeajpnkjaaDoor.Pr
open Go.RowKit Go.Proofs.YtdccbpeajpnkjaaDoorW.PrintWords Go.Proofs.YtdccbpeajpnkjaaDoorW.PrintLast Go.Proofs.YtdccbpeajpnkjaaDoorW.PrintMore
theorem wr64 {n : Int} (h : -1000000000000 ≤ n ∧ n ≤ 1000000000000) : wrap64 n = n := by unfold wrap64; omega
theorem bt_natL (s : ByteArray) (k : Nat) : ∀ h : k < s.size, ((s[k]'h).toNat : Int) = bt s (k : Int) := fun h => by
  have := bt_at s (k : Int) (by simpa using h)
  simpa using this
theorem bt_cast (s : ByteArray) (k : Nat) (h : k < s.size) : bt s (k : Int) = ((s.data.toList[k]'(by simpa using h)).toNat : Int) := by
  rw [← bt_natL s k h]; rfl
def ofL (l : List UInt8) : ByteArray := ⟨l.toArray⟩
theorem ofL_list (l : List UInt8) : (ofL l).data.toList = l := by simp [ofL]
theorem ofL_size (l : List UInt8) : (ofL l).size = l.length := by simp [ofL, ByteArray.size]
theorem ofL_of (s : ByteArray) : ofL s.data.toList = s := by simp [ofL]
theorem ofL_eq {l : List UInt8} {s : ByteArray} (h : s.data.toList = l) : s = ofL l := by rw [← h, ofL_of]
theorem ext_ofL (s : ByteArray) (i e : Nat) : s.extract i e = ofL ((s.data.toList.drop i).take (e - i)) := by
  rw [Lib.extract_eq]; rfl
theorem drop_cons {s : ByteArray} {i : Nat} (h : i < s.size) : ∃ c l, s.data.toList.drop i = c :: l ∧ bt s (i : Int) = (c.toNat : Int) ∧ s.data.toList.drop (i + 1) = l :=
  ⟨_, _, List.drop_eq_getElem_cons h, bt_cast s i h, rfl⟩
def kwB (s : ByteArray) : Bool := Lib.contains kwList (32 :: (s.data.toList ++ [32]))
def isNameB (s : ByteArray) : Bool := decide (0 < s.size) && (decide (s.size ≤ 32) && (isSmall (bt s 0) && (allB isWord s && !kwB s)))
theorem toList_nil_iff (s : ByteArray) : s.toList = ([] : List UInt8) ↔ s.size = 0 := by
  rw [Lib.toList_data]
  have h4 : s.data.toList.length = s.size := rfl
  constructor
  · intro h; rw [h] at h4; simpa using h4.symm
  · intro h; exact List.eq_nil_of_length_eq_zero (by omega)
theorem IsName_some (s : ByteArray) (hs : s.size ≤ 1000000000) : lexer_IsName.f s = some (isNameB s) := by
  unfold lexer_IsName.f isNameB kwB
  by_cases h0 : s.size = 0
  · rw [if_pos ((toList_nil_iff s).2 h0), decide_eq_false (by omega)]; rfl
  · rw [if_neg (fun h => h0 ((toList_nil_iff s).1 h)), decide_eq_true (by omega)]
    by_cases h1 : s.size ≤ 32
    · rw [if_pos (by omega), if_pos (by omega), decide_eq_true h1, small_some]
      simp only [Option.bind_some, lexer_all_word.f, lexer_keyword.f, if_pos hs, if_pos (show s.size ≤ 9223372036854775807 by omega)]
      cases isSmall (bt s 0) <;> cases allB isWord s <;> simp
    · rw [if_neg (by omega), decide_eq_false h1]; rfl
end Go.Proofs.YtdccbpeajpnkjaaDoor.Pr
