/- Contracts of lexer.all at the functions that it is called with, in the form that the printed texts take: what they return; conditions: where '.f' tells 'some'. -/
import Derived.Lib.Hide
import Derived.Test.YtdccbpeajpnkjaaGreatDoorPr90
namespace Go.Proofs.YtdccbpeajpnkjaaGreatDoor.Pr
open Go.RowKit Go.Proofs.YtdccbpeajpnkjaaGreatDoorW.PrintWords Go.Proofs.YtdccbpeajpnkjaaGreatDoorW.PrintLast Go.Proofs.YtdccbpeajpnkjaaGreatDoorW.PrintMore

def isSmall (c : Int) : Bool := decide (97 ≤ c) && decide (c ≤ 122)
def isCapital (c : Int) : Bool := decide (65 ≤ c) && decide (c ≤ 90)
def isDigit (c : Int) : Bool := decide (48 ≤ c) && decide (c ≤ 57)
def isWord (c : Int) : Bool := isSmall c || (isCapital c || (isDigit c || c == 95))
theorem small_some (c : Int) : lexer_small.f c = some (isSmall c) := by unfold lexer_small.f isSmall; split <;> simp_all <;> omega
theorem capital_some (c : Int) : lexer_capital.f c = some (isCapital c) := by unfold lexer_capital.f isCapital; split <;> simp_all <;> omega
theorem digit_some (c : Int) : lexer_digit.f c = some (isDigit c) := by unfold lexer_digit.f isDigit; split <;> simp_all <;> omega
theorem word_some (c : Int) : lexer_word.f c = some (isWord c) := by
  unfold lexer_word.f isWord
  rw [small_some, capital_some, digit_some]
  simp only [Option.bind_some]
  cases isSmall c <;> cases isCapital c <;> cases isDigit c <;> simp
theorem bt_nat (s : ByteArray) (k : Nat) : ∀ h : k < s.size, ((s[k]'h).toNat : Int) = bt s (k : Int) := fun h => by
  have := bt_at s (k : Int) (by simpa using h)
  simpa using this
/-- the first k bytes satisfy p. -/
def allUpto (p : Int → Bool) (s : ByteArray) (k : Nat) : Prop := ∀ j : Nat, j < k → p (bt s j) = true
def allB (p : Int → Bool) (s : ByteArray) : Bool := (List.range s.size).all fun j => p (bt s j)
theorem allB_true {p : Int → Bool} {s : ByteArray} (h : allUpto p s s.size) : allB p s = true := by
  unfold allB
  rw [List.all_eq_true]
  intro j hj
  exact h j (by simpa using hj)
theorem allB_false {p : Int → Bool} {s : ByteArray} {k : Nat} (hk : k < s.size) (h : p (bt s k) = false) : allB p s = false := by
  unfold allB
  rw [List.all_eq_false]
  exact ⟨k, by simpa using hk, by rw [h]; simp⟩


def isLower (c : Int) : Bool := isSmall c || isDigit c
/-- the closure of lexer.Major. -/
def lexer_Lower.f (c : Int) : Option Bool := some (isLower c)
theorem lower_some (c : Int) : lexer_Lower.f c = some (isLower c) := rfl
set_option maxHeartbeats 1000000 in
set_option maxRecDepth 100000 in
theorem lexer_Lower.calls (a0 : Int) (r : Bool) (w : World) (h : lexer_Lower.f a0 = some r) :
    Calls Tryz.prog 45 #[.int .u8 a0] w fun e w' => e = .returned (.bool r) ∧ Drawn0 w w' := by
  have h' := Option.some.inj h
  have H := Lib.hid h'
  clear h h'
  cases h1 : isSmall a0 with
  | true =>
    have H1 := Lib.hid h1
    clear h1
    go_enter Tryz.func45, Tryz.ntmps45
    go_wp2_with (go_at_call 46; (with_reducible refine (lexer_small.calls a0 true _ (by rw [small_some]; exact congrArg some H1.out)).mono ?_); rintro e w' ⟨rfl, ⟨nd, rfl⟩⟩)
    go_ret
    exact ⟨by rw [← H.out]; unfold isLower; rw [H1.out]; rfl, ⟨⟨_, rfl⟩⟩⟩
  | false =>
    have H1 := Lib.hid h1
    clear h1
    go_enter Tryz.func45, Tryz.ntmps45
    go_wp2_with (first | (go_at_call 46; (with_reducible refine (lexer_small.calls a0 false _ (by rw [small_some]; exact congrArg some H1.out)).mono ?_); rintro e w' ⟨rfl, ⟨nd, rfl⟩⟩) | (go_at_call 47; (with_reducible refine (lexer_digit.calls a0 (isDigit a0) _ (digit_some a0)).mono ?_); rintro e w' ⟨rfl, ⟨nd, rfl⟩⟩))
    go_ret
    exact ⟨by rw [← H.out]; unfold isLower; rw [H1.out]; rfl, by first | exact ⟨⟨_, rfl⟩⟩ | exact ⟨⟨_, World.drewN_drewN _ _ _⟩⟩⟩
def lexer_all_word.f (a0 : ByteArray) : Option Bool := if a0.size ≤ 9223372036854775807 then some (allB isWord a0) else none
set_option maxHeartbeats 1000000 in
set_option maxRecDepth 100000 in
theorem lexer_all_word.calls (a0 : ByteArray) (r : Bool) (w : World) (h : lexer_all_word.f a0 = some r) :
    Calls Tryz.prog 44 #[.string a0, .func (.func 62) #[] #[]] w fun e w' => e = .returned (.bool r) ∧ Drawn0 w w' := by
  unfold lexer_all_word.f at h
  split at h
  · rename_i hs
    have h' := Option.some.inj h
    have H := Lib.hid h'
    clear h h'
    go_enter Tryz.func44, Tryz.ntmps44
    go_wp2
    go_loopw [5, 8] (fun _ v8 wr => ∃ k : Nat, k ≤ a0.size ∧ v8 = .int .i64 k ∧ allUpto isWord a0 k ∧ Drawn0 w wr) (fun _ v8 _ => a0.size - (intOf v8).toNat)
    case atStart => exact ⟨0, Nat.zero_le _, rfl, fun j hj => absurd hj (by omega), Drawn0.refl _⟩
    case round =>
      obtain ⟨k, hk, rfl, hall, hd⟩ := hrel
      have HD := Aside0.mk hd
      have HA := Aside0.mk hall
      clear hd hall
      by_cases hlt : k < a0.size
      · have hx := bt_nat a0 k
        cases hb : isWord (bt a0 k) with
        | true =>
          have HB := Lib.hid hb
          clear hb
          go_wp2_with (go_at_call 62; (with_reducible refine (lexer_word.calls (bt a0 k) true _ (by rw [word_some]; exact congrArg some HB.out)).mono ?_); rintro e w' ⟨rfl, ⟨nd, rfl⟩⟩)
          go_roundw
          case rel => exact ⟨k + 1, by omega, by go_num, fun j hj => (Nat.lt_succ_iff_lt_or_eq.1 hj).elim (HA.out j) (fun e => e ▸ HB.out), HD.out.step _⟩
          case measure => simp [intOf]; omega
        | false =>
          have HB := Lib.hid hb
          clear hb
          go_wp2_with (go_at_call 62; (with_reducible refine (lexer_word.calls (bt a0 k) false _ (by rw [word_some]; exact congrArg some HB.out)).mono ?_); rintro e w' ⟨rfl, ⟨nd, rfl⟩⟩)
          go_ret
          exact ⟨by rw [← H.out, allB_false hlt HB.out]; rfl, HD.out.step _⟩
      · obtain rfl : k = a0.size := by omega
        go_wp2
        go_ret
        exact ⟨by rw [← H.out, allB_true HA.out]; rfl, HD.out⟩
  · cases h

def lexer_all_digit.f (a0 : ByteArray) : Option Bool := if a0.size ≤ 9223372036854775807 then some (allB isDigit a0) else none
set_option maxHeartbeats 1000000 in
set_option maxRecDepth 100000 in
theorem lexer_all_digit.calls (a0 : ByteArray) (r : Bool) (w : World) (h : lexer_all_digit.f a0 = some r) :
    Calls Tryz.prog 44 #[.string a0, .func (.func 47) #[] #[]] w fun e w' => e = .returned (.bool r) ∧ Drawn0 w w' := by
  unfold lexer_all_digit.f at h
  split at h
  · rename_i hs
    have h' := Option.some.inj h
    have H := Lib.hid h'
    clear h h'
    go_enter Tryz.func44, Tryz.ntmps44
    go_wp2
    go_loopw [5, 8] (fun _ v8 wr => ∃ k : Nat, k ≤ a0.size ∧ v8 = .int .i64 k ∧ allUpto isDigit a0 k ∧ Drawn0 w wr) (fun _ v8 _ => a0.size - (intOf v8).toNat)
    case atStart => exact ⟨0, Nat.zero_le _, rfl, fun j hj => absurd hj (by omega), Drawn0.refl _⟩
    case round =>
      obtain ⟨k, hk, rfl, hall, hd⟩ := hrel
      have HD := Aside0.mk hd
      have HA := Aside0.mk hall
      clear hd hall
      by_cases hlt : k < a0.size
      · have hx := bt_nat a0 k
        cases hb : isDigit (bt a0 k) with
        | true =>
          have HB := Lib.hid hb
          clear hb
          go_wp2_with (go_at_call 47; (with_reducible refine (lexer_digit.calls (bt a0 k) true _ (by rw [digit_some]; exact congrArg some HB.out)).mono ?_); rintro e w' ⟨rfl, ⟨nd, rfl⟩⟩)
          go_roundw
          case rel => exact ⟨k + 1, by omega, by go_num, fun j hj => (Nat.lt_succ_iff_lt_or_eq.1 hj).elim (HA.out j) (fun e => e ▸ HB.out), HD.out.step _⟩
          case measure => simp [intOf]; omega
        | false =>
          have HB := Lib.hid hb
          clear hb
          go_wp2_with (go_at_call 47; (with_reducible refine (lexer_digit.calls (bt a0 k) false _ (by rw [digit_some]; exact congrArg some HB.out)).mono ?_); rintro e w' ⟨rfl, ⟨nd, rfl⟩⟩)
          go_ret
          exact ⟨by rw [← H.out, allB_false hlt HB.out]; rfl, HD.out.step _⟩
      · obtain rfl : k = a0.size := by omega
        go_wp2
        go_ret
        exact ⟨by rw [← H.out, allB_true HA.out]; rfl, HD.out⟩
  · cases h

def lexer_all_lower.f (a0 : ByteArray) : Option Bool := if a0.size ≤ 9223372036854775807 then some (allB isLower a0) else none
set_option maxHeartbeats 1000000 in
set_option maxRecDepth 100000 in
theorem lexer_all_lower.calls (a0 : ByteArray) (r : Bool) (w : World) (h : lexer_all_lower.f a0 = some r) :
    Calls Tryz.prog 44 #[.string a0, .func (.func 45) #[] #[]] w fun e w' => e = .returned (.bool r) ∧ Drawn0 w w' := by
  unfold lexer_all_lower.f at h
  split at h
  · rename_i hs
    have h' := Option.some.inj h
    have H := Lib.hid h'
    clear h h'
    go_enter Tryz.func44, Tryz.ntmps44
    go_wp2
    go_loopw [5, 8] (fun _ v8 wr => ∃ k : Nat, k ≤ a0.size ∧ v8 = .int .i64 k ∧ allUpto isLower a0 k ∧ Drawn0 w wr) (fun _ v8 _ => a0.size - (intOf v8).toNat)
    case atStart => exact ⟨0, Nat.zero_le _, rfl, fun j hj => absurd hj (by omega), Drawn0.refl _⟩
    case round =>
      obtain ⟨k, hk, rfl, hall, hd⟩ := hrel
      have HD := Aside0.mk hd
      have HA := Aside0.mk hall
      clear hd hall
      by_cases hlt : k < a0.size
      · have hx := bt_nat a0 k
        cases hb : isLower (bt a0 k) with
        | true =>
          have HB := Lib.hid hb
          clear hb
          go_wp2_with (go_at_call 45; (with_reducible refine (lexer_Lower.calls (bt a0 k) true _ (by rw [lower_some]; exact congrArg some HB.out)).mono ?_); rintro e w' ⟨rfl, ⟨nd, rfl⟩⟩)
          go_roundw
          case rel => exact ⟨k + 1, by omega, by go_num, fun j hj => (Nat.lt_succ_iff_lt_or_eq.1 hj).elim (HA.out j) (fun e => e ▸ HB.out), HD.out.step _⟩
          case measure => simp [intOf]; omega
        | false =>
          have HB := Lib.hid hb
          clear hb
          go_wp2_with (go_at_call 45; (with_reducible refine (lexer_Lower.calls (bt a0 k) false _ (by rw [lower_some]; exact congrArg some HB.out)).mono ?_); rintro e w' ⟨rfl, ⟨nd, rfl⟩⟩)
          go_ret
          exact ⟨by rw [← H.out, allB_false hlt HB.out]; rfl, HD.out.step _⟩
      · obtain rfl : k = a0.size := by omega
        go_wp2
        go_ret
        exact ⟨by rw [← H.out, allB_true HA.out]; rfl, HD.out⟩
  · cases h

end Go.Proofs.YtdccbpeajpnkjaaGreatDoor.Pr
