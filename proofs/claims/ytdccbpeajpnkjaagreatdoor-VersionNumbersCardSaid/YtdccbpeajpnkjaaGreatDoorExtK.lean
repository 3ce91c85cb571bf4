/- The contract of lexer.keyword, in the form that the printed texts take: whether the word stands between blanks in the list of keywords; condition: where '.f' tells 'some'. -/
import Derived.Lib.Hide
import Derived.Test.YtdccbpeajpnkjaaGreatDoorPr0
import Derived.Test.YtdccbpeajpnkjaaGreatDoorGlob
import Derived.Test.YtdccbpeajpnkjaaGreatDoorShelf
namespace Go.Proofs.YtdccbpeajpnkjaaGreatDoor.Pr
open Go.RowKit Go.Proofs.YtdccbpeajpnkjaaGreatDoorW.PrintWords Go.Proofs.YtdccbpeajpnkjaaGreatDoorW.PrintLast Go.Proofs.YtdccbpeajpnkjaaGreatDoorW.PrintMore
/-- the keywords, each one between blanks. -/
def kwList : List UInt8 := [32, 97, 110, 100, 32, 97, 110, 121, 32, 97, 115, 32, 98, 111, 111, 108, 32, 100, 101, 112, 114, 101, 99, 97, 116, 101, 100, 32, 101, 108, 115, 101, 32, 101, 120, 112, 111, 114, 116, 32, 102, 97, 108, 115, 101, 32, 102, 110, 32, 102, 111, 108, 100, 32, 102, 114, 111, 109, 32, 105, 102, 32, 105, 109, 112, 111, 114, 116, 32, 105, 110, 32, 105, 110, 116, 32, 108, 101, 110, 103, 116, 104, 32, 108, 101, 116, 32, 108, 105, 115, 116, 32, 109, 97, 116, 99, 104, 32, 109, 111, 100, 117, 108, 101, 32, 110, 111, 110, 101, 32, 110, 111, 116, 32, 111, 114, 32, 116, 101, 120, 116, 32, 116, 104, 101, 110, 32, 116, 114, 117, 101, 32, 116, 121, 112, 101, 32, 117, 115, 101, 32]
def lexer_keyword.f (a0 : ByteArray) : Option Bool := if a0.size ≤ 1000000000 then some (Lib.contains kwList (32 :: (a0.data.toList ++ [32]))) else none
set_option maxHeartbeats 1000000 in
set_option maxRecDepth 100000 in
theorem lexer_keyword.calls (a0 : ByteArray) (r : Bool) (w : World) (h : lexer_keyword.f a0 = some r) (hG : Gd w) :
    Calls Tryz.prog 63 #[.string a0] w fun e w' => e = .returned (.bool r) ∧ Drawn0 w w' := by
  unfold lexer_keyword.f at h
  split at h
  · rename_i hs
    have h' := Option.some.inj h
    have H := Lib.hid h'
    clear h h'
    obtain ⟨m, hm⟩ := hG.len
    have HM := Aside0.mk hm
    clear hm
    have hs1 : 1 + a0.size ≤ 9223372036854775807 := by omega
    have hs2 : ((⟨#[32]⟩ : ByteArray) ++ a0).size + 1 ≤ 9223372036854775807 := by rw [ByteArray.size_append]; show (1 + a0.size) + 1 ≤ _; omega
    have c2b1 : decide (1 + a0.size ≤ 9223372036854775807) = true := decide_eq_true hs1
    have c2b2 : (9223372036854775807 < 1 + a0.size) = False := eq_false (Nat.not_lt.2 hs1)
    have c3b1 : decide (((⟨#[32]⟩ : ByteArray) ++ a0).size + 1 ≤ 9223372036854775807) = true := decide_eq_true hs2
    have c3b2 : (9223372036854775807 < ((⟨#[32]⟩ : ByteArray) ++ a0).size + 1) = False := eq_false (Nat.not_lt.2 hs2)
    go_enter Tryz.func63, Tryz.ntmps63
    go_wp2_with (go_at_call 82; refine (Tryz.strings_Contains _ _ m _ ?hsz HM.out).mono ?_)
    case hsz => decide
    go_ret
    exact ⟨by rw [← H.out]; rfl, Drawn0.refl _⟩
  · cases h
end Go.Proofs.YtdccbpeajpnkjaaGreatDoor.Pr
