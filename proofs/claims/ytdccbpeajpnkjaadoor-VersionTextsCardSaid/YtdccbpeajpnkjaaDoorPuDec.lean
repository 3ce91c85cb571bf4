/- The numerals of the numbers 0 to 999, what they are read as, and what the reference writes for them; no condition. -/
import Derived.Test.YtdccbpeajpnkjaaDoorExtF
import Derived.Test.YtdccbpeajpnkjaaDoorPuPar
namespace Go.Proofs.YtdccbpeajpnkjaaDoor.Pr
open Go.RowKit Go.Proofs.YtdccbpeajpnkjaaDoorW.PrintWords Go.Proofs.YtdccbpeajpnkjaaDoorW.PrintLast Go.Proofs.YtdccbpeajpnkjaaDoorW.PrintMore
/-- the digit that says d. -/
def dg (d : Nat) : UInt8 := UInt8.ofNat (48 + d)
theorem dg_nat {d : Nat} (h : d < 10) : (dg d).toNat = 48 + d := by
  unfold dg; rw [UInt8.toNat_ofNat']; omega
/-- the digits of a number under 1000. -/
def digs (n : Nat) : List UInt8 := if n < 10 then [dg n] else if n < 100 then [dg (n / 10), dg (n % 10)] else [dg (n / 100), dg (n / 10 % 10), dg (n % 10)]
theorem itoa_digs {n : Nat} (h : n < 1000) : Lib.itoa (n : Int) = digs n := by
  unfold Lib.itoa digs
  rw [if_neg (by omega), Int.toNat_natCast]
  by_cases h1 : n < 10
  · rw [Lib.decDigits, dif_pos h1, if_pos h1]; rfl
  · rw [Lib.decDigits, dif_neg h1, if_neg h1]
    by_cases h2 : n < 100
    · rw [if_pos h2, Lib.decDigits, dif_pos (by omega)]; rfl
    · rw [if_neg h2, Lib.decDigits, dif_neg (by omega), Lib.decDigits, dif_pos (by omega), show n / 10 / 10 = n / 100 by omega]; rfl
theorem dg_dig {d : Nat} (h : d < 10) : digC (dg d) := by unfold digC; rw [dg_nat h]; omega
theorem dg_ne {d : Nat} (h : d < 10) (h0 : d ≠ 0) : dg d ≠ 48 := by
  intro e
  have := congrArg UInt8.toNat e
  rw [dg_nat h] at this
  have : (48 : UInt8).toNat = 48 := rfl
  omega
theorem okL_digs {n : Nat} (h : n < 1000) : okL (digs n) = true := by
  unfold digs
  split
  · exact (okL_one _).2 (dg_dig (by omega))
  · split
    · exact (okL_two _ _).2 ⟨⟨dg_dig (by omega), dg_dig (by omega)⟩, dg_ne (by omega) (by omega)⟩
    · exact (okL_three _ _ _).2 ⟨⟨dg_dig (by omega), dg_dig (by omega), dg_dig (by omega)⟩, dg_ne (by omega) (by omega)⟩
theorem atoi_digs {n : Nat} (h : n < 1000) : Lib.atoi (digs n) = some (n : Int) := by
  unfold digs
  split
  · rw [atoi_1 (dg_dig (by omega)), dg_nat (by omega)]; congr 1; omega
  · split
    · rw [atoi_2 (dg_dig (by omega)) (dg_dig (by omega)), dg_nat (by omega), dg_nat (by omega)]; congr 1; omega
    · rw [atoi_3 (dg_dig (by omega)) (dg_dig (by omega)) (dg_dig (by omega)), dg_nat (by omega), dg_nat (by omega), dg_nat (by omega)]; congr 1; omega
theorem dg_of {c : UInt8} (h : digC c) : dg (c.toNat - 48) = c := by
  unfold digC at h
  rw [← UInt8.toNat_inj, dg_nat (by omega)]; omega
/-- a row of digits without a leading zero is the numeral of what it is read as. -/
theorem digs_of : ∀ {l : List UInt8}, okL l = true → ∃ n : Nat, n < 1000 ∧ Lib.atoi l = some (n : Int) ∧ digs n = l
  | [], h => by cases h
  | [a], h => by
    have ha := (okL_one a).1 h
    have hb := ha
    unfold digC at hb
    refine ⟨a.toNat - 48, by omega, ?_, ?_⟩
    · rw [atoi_1 ha]; congr 1; omega
    · unfold digs; rw [if_pos (by omega), dg_of ha]
  | [a, b], h => by
    obtain ⟨⟨ha, hb⟩, h0⟩ := (okL_two a b).1 h
    have h1 := not48.1 h0
    have ka := ha; have kb := hb
    unfold digC at ka kb
    refine ⟨10 * (a.toNat - 48) + (b.toNat - 48), by omega, ?_, ?_⟩
    · rw [atoi_2 ha hb]; congr 1; omega
    · unfold digs
      rw [if_neg (by omega), if_pos (by omega), show (10 * (a.toNat - 48) + (b.toNat - 48)) / 10 = a.toNat - 48 by omega, show (10 * (a.toNat - 48) + (b.toNat - 48)) % 10 = b.toNat - 48 by omega, dg_of ha, dg_of hb]
  | [a, b, c], h => by
    obtain ⟨⟨ha, hb, hc⟩, h0⟩ := (okL_three a b c).1 h
    have h1 := not48.1 h0
    have ka := ha; have kb := hb; have kc := hc
    unfold digC at ka kb kc
    refine ⟨100 * (a.toNat - 48) + 10 * (b.toNat - 48) + (c.toNat - 48), by omega, ?_, ?_⟩
    · rw [atoi_3 ha hb hc]; congr 1; omega
    · unfold digs
      rw [if_neg (by omega), if_neg (by omega), show (100 * (a.toNat - 48) + 10 * (b.toNat - 48) + (c.toNat - 48)) / 100 = a.toNat - 48 by omega, show (100 * (a.toNat - 48) + 10 * (b.toNat - 48) + (c.toNat - 48)) / 10 % 10 = b.toNat - 48 by omega, show (100 * (a.toNat - 48) + 10 * (b.toNat - 48) + (c.toNat - 48)) % 10 = c.toNat - 48 by omega, dg_of ha, dg_of hb, dg_of hc]
  | a :: b :: c :: d :: r, h => by rw [okL_more] at h; cases h
/-- what the reference writes for a number under 1000. -/
theorem decimal_one {n : Nat} (h : n < 10) (k : Nat) : modcertref24_decimal.f (k + 1) (n : Int) = some ⟨[dg n].toArray⟩ := by
  rw [modcertref24_decimal.f, if_pos (by omega)]
  unfold strOfNums dg
  rw [show wrap64 (48 + (n : Int)) % 256 = ((48 + n : Nat) : Int) from by unfold wrap64; omega]
  rfl
theorem app_arr (a b : List UInt8) : (⟨a.toArray⟩ : ByteArray) ++ ⟨b.toArray⟩ = ⟨(a ++ b).toArray⟩ := by
  apply ByteArray.ext; simp
theorem arr_size (a : List UInt8) : (⟨a.toArray⟩ : ByteArray).size = a.length := by simp [ByteArray.size]
theorem decimal_step {n k : Nat} {x y : List UInt8} (h : ¬ n < 10) (hn : n < 1000) (hx : modcertref24_decimal.f k ((n / 10 : Nat) : Int) = some ⟨x.toArray⟩) (hy : modcertref24_decimal.f k ((n % 10 : Nat) : Int) = some ⟨y.toArray⟩) (hl : x.length + y.length ≤ 100) :
    modcertref24_decimal.f (k + 1) (n : Int) = some ⟨(x ++ y).toArray⟩ := by
  rw [modcertref24_decimal.f, if_neg (by omega), show wrap64 (Int.tdiv (n : Int) 10) = ((n / 10 : Nat) : Int) from by rw [Int.tdiv_eq_ediv_of_nonneg (by omega)]; unfold wrap64; omega, hx, Option.bind_some, show Int.tmod (n : Int) 10 = ((n % 10 : Nat) : Int) from by rw [Int.tmod_eq_emod_of_nonneg (by omega)]; omega, hy, Option.bind_some, arr_size, arr_size, if_pos (by omega), app_arr]
theorem decimal_digs {n : Nat} (h : n < 1000) (k : Nat) : modcertref24_decimal.f (k + 3) (n : Int) = some ⟨(digs n).toArray⟩ := by
  unfold digs
  by_cases h1 : n < 10
  · rw [if_pos h1]; exact decimal_one h1 (k + 2)
  · rw [if_neg h1]
    by_cases h2 : n < 100
    · rw [if_pos h2]
      exact decimal_step (x := [dg (n / 10)]) (y := [dg (n % 10)]) h1 h (decimal_one (by omega) (k + 1)) (decimal_one (by omega) (k + 1)) (by simp)
    · rw [if_neg h2]
      exact decimal_step (x := [dg (n / 100), dg (n / 10 % 10)]) (y := [dg (n % 10)]) h1 h
        (decimal_step (x := [dg (n / 100)]) (y := [dg (n / 10 % 10)]) (by omega) (by omega) (by rw [show n / 10 / 10 = n / 100 by omega]; exact decimal_one (by omega) k) (decimal_one (by omega) k) (by simp)) (decimal_one (by omega) (k + 1)) (by simp)
theorem numText_digs {n : Nat} (h : n < 1000) : numText (n : Int) = ⟨(digs n).toArray⟩ := by unfold numText; rw [itoa_digs h]
theorem digs_len {n : Nat} : 1 ≤ (digs n).length ∧ (digs n).length ≤ 3 := by
  unfold digs
  split
  · simp
  · split <;> simp
end Go.Proofs.YtdccbpeajpnkjaaDoor.Pr
