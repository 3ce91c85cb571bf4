/- The numerals of the numbers 0 to 999, and what they are read as; no condition. -/
import Derived.Test.YtdccbpeajpnkjaaGreatDoorExtF
import Derived.Test.YtdccbpeajpnkjaaGreatDoorExtP
namespace Go.Proofs.YtdccbpeajpnkjaaGreatDoor.Pr
open Go.RowKit Go.Proofs.YtdccbpeajpnkjaaGreatDoorW.PrintWords Go.Proofs.YtdccbpeajpnkjaaGreatDoorW.PrintLast Go.Proofs.YtdccbpeajpnkjaaGreatDoorW.PrintMore
/-- a row of one to three digits without a leading zero. -/
def okL (l : List UInt8) : Bool := decide (1 ≤ l.length) && (decide (l.length ≤ 3) && ((l.all fun b => decide (48 ≤ b.toNat) && decide (b.toNat ≤ 57)) && !(decide (1 < l.length) && l.getD 0 0 == 48)))
def digC (c : UInt8) : Prop := 48 ≤ c.toNat ∧ c.toNat ≤ 57
theorem atoi_1 {a : UInt8} (ha : digC a) : Lib.atoi [a] = some ((a.toNat : Int) - 48) := by
  unfold digC at ha
  have e1 : (a == 45) = false := beq_eq_false_iff_ne.2 (fun e => by subst e; exact absurd ha.1 (by decide))
  have e2 : (a == 43) = false := beq_eq_false_iff_ne.2 (fun e => by subst e; exact absurd ha.1 (by decide))
  simp [Lib.atoi, e1, e2, Lib.decNat, Lib.decFrom, Lib.digitVal, ha]
  omega
theorem atoi_2 {a b : UInt8} (ha : digC a) (hb : digC b) : Lib.atoi [a, b] = some (10 * ((a.toNat : Int) - 48) + ((b.toNat : Int) - 48)) := by
  unfold digC at ha hb
  have e1 : (a == 45) = false := beq_eq_false_iff_ne.2 (fun e => by subst e; exact absurd ha.1 (by decide))
  have e2 : (a == 43) = false := beq_eq_false_iff_ne.2 (fun e => by subst e; exact absurd ha.1 (by decide))
  simp [Lib.atoi, e1, e2, Lib.decNat, Lib.decFrom, Lib.digitVal, ha, hb]
  omega
theorem atoi_3 {a b c : UInt8} (ha : digC a) (hb : digC b) (hc : digC c) : Lib.atoi [a, b, c] = some (10 * (10 * ((a.toNat : Int) - 48) + ((b.toNat : Int) - 48)) + ((c.toNat : Int) - 48)) := by
  unfold digC at ha hb hc
  have e1 : (a == 45) = false := beq_eq_false_iff_ne.2 (fun e => by subst e; exact absurd ha.1 (by decide))
  have e2 : (a == 43) = false := beq_eq_false_iff_ne.2 (fun e => by subst e; exact absurd ha.1 (by decide))
  simp [Lib.atoi, e1, e2, Lib.decNat, Lib.decFrom, Lib.digitVal, ha, hb, hc]
  omega
theorem okL_one (a : UInt8) : okL [a] = true ↔ digC a := by unfold okL digC; simp
theorem okL_two (a b : UInt8) : okL [a, b] = true ↔ (digC a ∧ digC b) ∧ a ≠ 48 := by unfold okL digC; simp [and_assoc]
theorem okL_three (a b c : UInt8) : okL [a, b, c] = true ↔ (digC a ∧ digC b ∧ digC c) ∧ a ≠ 48 := by unfold okL digC; simp [and_assoc]
theorem okL_more (a b c d : UInt8) (r : List UInt8) : okL (a :: b :: c :: d :: r) = false := by unfold okL; simp
theorem not48 {a : UInt8} : a ≠ 48 ↔ (a.toNat : Int) - 48 ≠ 0 := by
  rw [ne_eq, ← UInt8.toNat_inj]
  show ¬ a.toNat = 48 ↔ _
  omega
/-- the digit that says d. -/
def dg (d : Nat) : UInt8 := UInt8.ofNat (48 + d)
theorem dg_nat {d : Nat} (h : d < 10) : (dg d).toNat = 48 + d := by
  unfold dg; rw [UInt8.toNat_ofNat']; omega
/-- the digits of a number under 1000. -/
def digs (n : Nat) : List UInt8 := if n < 10 then [dg n] else if n < 100 then [dg (n / 10), dg (n % 10)] else [dg (n / 100), dg (n / 10 % 10), dg (n % 10)]
theorem itoa_digs {n : Nat} (h : n < 1000) : Lib.itoa (n : Int) = digs n := by
  unfold Lib.itoa digs
  rw [if_neg (by omega), Int.toNat_natCast]
  by_cases h1 : n < 10
  · rw [Lib.decDigits, dif_pos h1, if_pos h1]; rfl
  · rw [Lib.decDigits, dif_neg h1, if_neg h1]
    by_cases h2 : n < 100
    · rw [if_pos h2, Lib.decDigits, dif_pos (by omega)]; rfl
    · rw [if_neg h2, Lib.decDigits, dif_neg (by omega), Lib.decDigits, dif_pos (by omega), show n / 10 / 10 = n / 100 by omega]; rfl
theorem dg_dig {d : Nat} (h : d < 10) : digC (dg d) := by unfold digC; rw [dg_nat h]; omega
theorem dg_ne {d : Nat} (h : d < 10) (h0 : d ≠ 0) : dg d ≠ 48 := by
  intro e
  have := congrArg UInt8.toNat e
  rw [dg_nat h] at this
  have : (48 : UInt8).toNat = 48 := rfl
  omega
theorem okL_digs {n : Nat} (h : n < 1000) : okL (digs n) = true := by
  unfold digs
  split
  · exact (okL_one _).2 (dg_dig (by omega))
  · split
    · exact (okL_two _ _).2 ⟨⟨dg_dig (by omega), dg_dig (by omega)⟩, dg_ne (by omega) (by omega)⟩
    · exact (okL_three _ _ _).2 ⟨⟨dg_dig (by omega), dg_dig (by omega), dg_dig (by omega)⟩, dg_ne (by omega) (by omega)⟩
theorem atoi_digs {n : Nat} (h : n < 1000) : Lib.atoi (digs n) = some (n : Int) := by
  unfold digs
  split
  · rw [atoi_1 (dg_dig (by omega)), dg_nat (by omega)]; congr 1; omega
  · split
    · rw [atoi_2 (dg_dig (by omega)) (dg_dig (by omega)), dg_nat (by omega), dg_nat (by omega)]; congr 1; omega
    · rw [atoi_3 (dg_dig (by omega)) (dg_dig (by omega)) (dg_dig (by omega)), dg_nat (by omega), dg_nat (by omega), dg_nat (by omega)]; congr 1; omega
theorem dg_of {c : UInt8} (h : digC c) : dg (c.toNat - 48) = c := by
  unfold digC at h
  rw [← UInt8.toNat_inj, dg_nat (by omega)]; omega
/-- a row of digits without a leading zero is the numeral of what it is read as. -/
theorem digs_of : ∀ {l : List UInt8}, okL l = true → ∃ n : Nat, n < 1000 ∧ Lib.atoi l = some (n : Int) ∧ digs n = l
  | [], h => by cases h
  | [a], h => by
    have ha := (okL_one a).1 h
    have hb := ha
    unfold digC at hb
    refine ⟨a.toNat - 48, by omega, ?_, ?_⟩
    · rw [atoi_1 ha]; congr 1; omega
    · unfold digs; rw [if_pos (by omega), dg_of ha]
  | [a, b], h => by
    obtain ⟨⟨ha, hb⟩, h0⟩ := (okL_two a b).1 h
    have h1 := not48.1 h0
    have ka := ha; have kb := hb
    unfold digC at ka kb
    refine ⟨10 * (a.toNat - 48) + (b.toNat - 48), by omega, ?_, ?_⟩
    · rw [atoi_2 ha hb]; congr 1; omega
    · unfold digs
      rw [if_neg (by omega), if_pos (by omega), show (10 * (a.toNat - 48) + (b.toNat - 48)) / 10 = a.toNat - 48 by omega, show (10 * (a.toNat - 48) + (b.toNat - 48)) % 10 = b.toNat - 48 by omega, dg_of ha, dg_of hb]
  | [a, b, c], h => by
    obtain ⟨⟨ha, hb, hc⟩, h0⟩ := (okL_three a b c).1 h
    have h1 := not48.1 h0
    have ka := ha; have kb := hb; have kc := hc
    unfold digC at ka kb kc
    refine ⟨100 * (a.toNat - 48) + 10 * (b.toNat - 48) + (c.toNat - 48), by omega, ?_, ?_⟩
    · rw [atoi_3 ha hb hc]; congr 1; omega
    · unfold digs
      rw [if_neg (by omega), if_neg (by omega), show (100 * (a.toNat - 48) + 10 * (b.toNat - 48) + (c.toNat - 48)) / 100 = a.toNat - 48 by omega, show (100 * (a.toNat - 48) + 10 * (b.toNat - 48) + (c.toNat - 48)) / 10 % 10 = b.toNat - 48 by omega, show (100 * (a.toNat - 48) + 10 * (b.toNat - 48) + (c.toNat - 48)) % 10 = c.toNat - 48 by omega, dg_of ha, dg_of hb, dg_of hc]
  | a :: b :: c :: d :: r, h => by rw [okL_more] at h; cases h
theorem app_arr (a b : List UInt8) : (⟨a.toArray⟩ : ByteArray) ++ ⟨b.toArray⟩ = ⟨(a ++ b).toArray⟩ := by
  apply ByteArray.ext; simp
theorem arr_size (a : List UInt8) : (⟨a.toArray⟩ : ByteArray).size = a.length := by simp [ByteArray.size]
theorem numText_digs {n : Nat} (h : n < 1000) : numText (n : Int) = ⟨(digs n).toArray⟩ := by unfold numText; rw [itoa_digs h]
theorem digs_len {n : Nat} : 1 ≤ (digs n).length ∧ (digs n).length ≤ 3 := by
  unfold digs
  split
  · simp
  · split <;> simp

end Go.Proofs.YtdccbpeajpnkjaaGreatDoor.Pr
