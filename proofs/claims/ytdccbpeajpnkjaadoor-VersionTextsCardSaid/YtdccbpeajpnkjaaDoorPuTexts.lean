/- The law VersionTexts in plain Lean: version.Parse, Format and Valid against the reference's; no condition. -/
import Derived.Test.YtdccbpeajpnkjaaDoorPuDec
import Derived.Test.YtdccbpeajpnkjaaDoorPr9
namespace Go.Proofs.YtdccbpeajpnkjaaDoor.Pr
open Go.RowKit Go.Proofs.YtdccbpeajpnkjaaDoorW.PrintWords Go.Proofs.YtdccbpeajpnkjaaDoorW.PrintLast Go.Proofs.YtdccbpeajpnkjaaDoorW.PrintMore
theorem valid_same (a b c : Int) : modcertref24_Valid.f a b c = some (validB a b c) := by
  unfold modcertref24_Valid.f modcertref24_part.f validB okPart
  by_cases h0 : a ≥ 0
  · rw [if_pos h0, Option.bind_some, decide_eq_true (show 0 ≤ a from h0), Bool.true_and]
    by_cases h1 : a ≤ 999
    · rw [decide_eq_true h1, if_pos rfl, Bool.true_and]
      by_cases h2 : b ≥ 0
      · rw [if_pos h2, Option.bind_some, decide_eq_true (show 0 ≤ b from h2), Bool.true_and]
        by_cases h3 : b ≤ 999
        · rw [decide_eq_true h3, if_pos rfl, Bool.true_and]
          by_cases h4 : c ≥ 0
          · rw [if_pos h4, Option.bind_some, decide_eq_true (show 0 ≤ c from h4), Bool.true_and]
          · rw [if_neg h4, Option.bind_some, decide_eq_false (show ¬ 0 ≤ c from h4)]; rfl
        · rw [decide_eq_false h3]; rfl
      · rw [if_neg h2, Option.bind_some, decide_eq_false (show ¬ 0 ≤ b from h2)]; rfl
    · rw [decide_eq_false h1]; rfl
  · rw [if_neg h0, Option.bind_some, decide_eq_false (show ¬ 0 ≤ a from h0)]; rfl
theorem valid_nat {a b c : Int} (h : validB a b c = true) : ∃ x y z : Nat, (x < 1000 ∧ y < 1000 ∧ z < 1000) ∧ a = x ∧ b = y ∧ c = z := by
  unfold validB okPart at h
  simp only [Bool.and_eq_true, decide_eq_true_eq] at h
  exact ⟨a.toNat, b.toNat, c.toNat, by omega, by omega, by omega, by omega⟩
theorem format_digs {x y z : Nat} (hx : x < 1000) (hy : y < 1000) (hz : z < 1000) : formatB x y z = ⟨(digs x ++ 46 :: (digs y ++ 46 :: digs z)).toArray⟩ := by
  unfold formatB
  rw [itoa_digs hx, itoa_digs hy, itoa_digs hz, join_three]
theorem format_same (a b c : Int) (k : Nat) : modcertref24_Format.f (k + 3) a b c = version_Format.f a b c := by
  unfold modcertref24_Format.f version_Format.f
  rw [valid_same, Option.bind_some]
  by_cases hv : validB a b c = true
  · obtain ⟨x, y, z, ⟨hx, hy, hz⟩, rfl, rfl, rfl⟩ := valid_nat hv
    have l1 := digs_len (n := x); have l2 := digs_len (n := y); have l3 := digs_len (n := z)
    rw [if_pos hv, if_pos hv, decimal_digs hx, decimal_digs hy, decimal_digs hz, format_digs hx hy hz]
    simp only [Option.bind_some]
    rw [show (⟨#[46]⟩ : ByteArray) = ⟨([46] : List UInt8).toArray⟩ from rfl]
    simp only [app_arr, arr_size, List.length_append, List.length_cons, List.length_nil]
    rw [if_pos (by omega), if_pos (by omega), if_pos (by omega), if_pos (by omega)]
    simp
  · rw [if_neg hv, if_neg hv]
theorem VersionTexts (s : ByteArray) (a b c : Int) : modcertlaw24_VersionTexts.f 2000 s a b c = some true := by
  unfold modcertlaw24_VersionTexts.f modcertlaw24_awake.f
  rw [Option.bind_some, if_pos rfl]
  by_cases hs : (s.size : Int) > 300
  · rw [if_pos hs]
  · rw [if_neg hs, parse_same s (by omega) 2000 (by omega), format_same a b c 1997, valid_same]
    unfold version_Parse.f version_Format.f version_Valid.f
    rw [if_pos (by omega)]
    simp
end Go.Proofs.YtdccbpeajpnkjaaDoor.Pr
