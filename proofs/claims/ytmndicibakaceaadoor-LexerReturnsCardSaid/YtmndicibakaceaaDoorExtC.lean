/- The contract of lexer.symbol, in the form that the printed texts take: the longest symbol with which a string begins: condition: where '.f' tells 'some'. -/
import Derived.Lib.Hide
import Derived.Test.YtmndicibakaceaaDoorExtA
namespace Go.Proofs.YtmndicibakaceaaDoor.Pr
open Go.RowKit Go.Proofs.YtmndicibakaceaaDoorW.PrintWords Go.Proofs.YtmndicibakaceaaDoorW.PrintLast Go.Proofs.YtmndicibakaceaaDoorW.PrintMore
/-- the symbols of more than one byte. -/
def longSyms : List ByteArray := [⟨#[61, 61, 61]⟩, ⟨#[58, 58]⟩, ⟨#[62, 58]⟩, ⟨#[60, 58]⟩, ⟨#[61, 62]⟩, ⟨#[61, 61]⟩, ⟨#[43, 43]⟩]
/-- the symbols of one byte. -/
def oneSyms : ByteArray := ⟨#[40, 41, 91, 93, 123, 125, 60, 62, 44, 58, 61, 46, 43, 45, 42, 124, 63, 47]⟩
def begins (s x : ByteArray) : Bool := Lib.hasPrefix s.data.toList x.data.toList
def symbolOf (s : ByteArray) : ByteArray :=
  match longSyms.find? (begins s) with
  | some x => x
  | none => if 0 < s.size ∧ 0 ≤ Lib.indexByte oneSyms.data.toList (bt s 0).toNat.toUInt8 then s.extract 0 1 else ⟨#[]⟩
def lexer_symbol.f (a0 : ByteArray) : Option ByteArray := if a0.size ≤ 9223372036854775807 then some (symbolOf a0) else none
theorem longSyms_at (k : Nat) (hk : k < 7) : ∀ w : World, (Instr.index 89 (.agg #[.string ⟨#[61, 61, 61]⟩, .string ⟨#[58, 58]⟩, .string ⟨#[62, 58]⟩, .string ⟨#[60, 58]⟩, .string ⟨#[61, 62]⟩, .string ⟨#[61, 61]⟩, .string ⟨#[43, 43]⟩]) (.int .i64 (k : Int))).run Tryd.prog w = .ok (.string (longSyms.getD k ⟨#[]⟩)) w := by
  match k, hk with
  | 0, _ => exact fun _ => by kernel_rfl
  | 1, _ => exact fun _ => by kernel_rfl
  | 2, _ => exact fun _ => by kernel_rfl
  | 3, _ => exact fun _ => by kernel_rfl
  | 4, _ => exact fun _ => by kernel_rfl
  | 5, _ => exact fun _ => by kernel_rfl
  | 6, _ => exact fun _ => by kernel_rfl
theorem longSyms_drop (k : Nat) (hk : k < 7) : longSyms.drop k = longSyms.getD k ⟨#[]⟩ :: longSyms.drop (k + 1) := by
  rw [List.drop_eq_getElem_cons (by simpa [longSyms] using hk)]
  congr 1
  simp [List.getD_eq_getElem?_getD, List.getElem?_eq_getElem (show k < longSyms.length by simpa [longSyms] using hk)]
theorem ne_isEmpty {s : ByteArray} (h : 0 < s.size) : s.toList.isEmpty = false := by
  cases hh : s.toList.isEmpty with
  | false => rfl
  | true =>
    rw [Lib.toList_data] at hh
    have h3 : s.data.toList.length = 0 := by rw [List.isEmpty_iff.1 hh]; rfl
    have h4 : s.data.toList.length = s.size := rfl
    omega
theorem bt_nat0 (s : ByteArray) (k : Nat) : ∀ h : k < s.size, ((s[k]'h).toNat : Int) = bt s (k : Int) := fun h => by
  have := bt_at s (k : Int) (by simpa using h)
  simpa using this
set_option maxHeartbeats 1000000 in
set_option maxRecDepth 100000 in
theorem lexer_symbol.calls (a0 : ByteArray) (r : ByteArray) (w : World) (h : lexer_symbol.f a0 = some r) :
    Calls Tryd.prog 76 #[.string a0] w fun e w' => e = .returned (.string r) ∧ Below w.heap.size w w' := by
  unfold lexer_symbol.f at h
  split at h
  · rename_i hs
    have h' := Option.some.inj h
    have H := Lib.hid h'
    clear h h'
    have hB0 := Aside0.mk (Below.refl w.heap.size w)
    go_enter Tryd.func76, Tryd.ntmps76
    go_wp2
    go_loopw [4, 6] (fun _ v6 wr => ∃ k : Nat, k ≤ 7 ∧ v6 = .int .i64 k ∧ Aside0 ((longSyms.drop k).find? (begins a0) = longSyms.find? (begins a0)) ∧ wr = w) (fun _ v6 _ => 7 - (intOf v6).toNat)
    case atStart => exact ⟨0, by omega, rfl, ⟨rfl⟩, rfl⟩
    case round =>
      obtain ⟨k, hk, rfl, HF, rfl⟩ := hrel
      by_cases hlt : k < 7
      · have hix := longSyms_at k hlt
        have HD := Aside0.mk (longSyms_drop k hlt)
        cases hb : begins a0 (longSyms.getD k ⟨#[]⟩) with
        | true =>
          have HB := Lib.hid hb
          clear hb
          go_wp2_with (go_at_call 30; refine (Tryd.strings_HasPrefix a0 (longSyms.getD k ⟨#[]⟩) _).mono ?_; rintro e w' ⟨rfl, rfl⟩; rw [show Lib.hasPrefix a0.data.toList (longSyms.getD k ⟨#[]⟩).data.toList = true from HB.out])
          go_ret
          refine ⟨?_, hB0.out⟩
          rw [← H.out]
          have hf : longSyms.find? (begins a0) = some (longSyms.getD k ⟨#[]⟩) := by rw [← HF.out, HD.out, List.find?_cons_of_pos HB.out]
          simp only [symbolOf, hf]
          rfl
        | false =>
          have HB := Lib.hid hb
          clear hb
          go_wp2_with (go_at_call 30; refine (Tryd.strings_HasPrefix a0 (longSyms.getD k ⟨#[]⟩) _).mono ?_; rintro e w' ⟨rfl, rfl⟩; rw [show Lib.hasPrefix a0.data.toList (longSyms.getD k ⟨#[]⟩).data.toList = false from HB.out])
          go_roundw
          case rel => exact ⟨k + 1, by omega, by go_num, ⟨by rw [← HF.out, HD.out, List.find?_cons_of_neg (by rw [HB.out]; simp)]⟩, by first | trivial | rfl⟩
          case measure => simp [intOf]; omega
      · obtain rfl : k = 7 := by omega
        have hf : longSyms.find? (begins a0) = none := by rw [← HF.out]; rfl
        have HN := Lib.hid hf
        clear hf HF hlt
        by_cases h0 : 0 < a0.size
        · have hx := bt_nat0 a0 0
          have hne := ne_isEmpty h0
          obtain ⟨x, hx1⟩ : ∃ x, Lib.indexByte oneSyms.data.toList (bt a0 0).toNat.toUInt8 = x := ⟨_, rfl⟩
          have HX := Lib.hid hx1
          clear hx1
          by_cases hp : 0 ≤ x
          · have hp0 : decide (0 ≤ x) = true := decide_eq_true hp
            have hs1 : 1 ≤ a0.size := h0
            go_wp2_with (go_at_call 73; refine (Tryd.strings_IndexByte oneSyms (bt a0 0) _).mono ?_; rintro e w' ⟨rfl, rfl⟩; rw [HX.out])
            go_ret
            refine ⟨?_, hB0.out⟩
            rw [← H.out]
            simp only [symbolOf, HN.out]
            rw [if_pos ⟨h0, by rw [HX.out]; exact hp⟩]
            rfl
          · have hp0 : decide (0 ≤ x) = false := decide_eq_false hp
            go_wp2_with (go_at_call 73; refine (Tryd.strings_IndexByte oneSyms (bt a0 0) _).mono ?_; rintro e w' ⟨rfl, rfl⟩; rw [HX.out])
            go_ret
            refine ⟨?_, hB0.out⟩
            rw [← H.out]
            simp only [symbolOf, HN.out]
            rw [if_neg (fun hh => by have := hh.2; rw [HX.out] at this; omega)]
            rfl
        · obtain rfl : a0 = ⟨#[]⟩ := by
            obtain ⟨⟨l⟩⟩ := a0
            have : l = [] := List.eq_nil_of_length_eq_zero (by simpa [ByteArray.size] using h0)
            rw [this]
          go_wp2
          go_ret
          refine ⟨?_, hB0.out⟩
          rw [← H.out]
          rfl
  · cases h
end Go.Proofs.YtmndicibakaceaaDoor.Pr
