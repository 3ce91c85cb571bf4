/- The law VersionNumbers in plain Lean: version.Compare, Latest, Next, Claims and Permits against the reference's; no condition. -/
import Derived.Test.YtdccbpeajpnkjaaGreatDoorPuClm
import Derived.Test.YtdccbpeajpnkjaaGreatDoorPuNx
import Derived.Test.YtdccbpeajpnkjaaGreatDoorPuVal
import Derived.Test.YtdccbpeajpnkjaaGreatDoorPr10
namespace Go.Proofs.YtdccbpeajpnkjaaGreatDoor.Pr
open Go.RowKit Go.Proofs.YtdccbpeajpnkjaaGreatDoorW.PrintWords Go.Proofs.YtdccbpeajpnkjaaGreatDoorW.PrintLast Go.Proofs.YtdccbpeajpnkjaaGreatDoorW.PrintMore
theorem ref_compare (k : Nat) (a0 a1 a2 b0 b1 b2 : Int) : modcertref24_Compare.f (k + 4) a0 a1 a2 b0 b1 b2 = some (cmpV a0 a1 a2 b0 b1 b2) := by
  have e0 : ∀ x y z : Int, rd [x, y, z] 0 = x := fun _ _ _ => rfl
  have e1 : ∀ x y z : Int, rd [x, y, z] 1 = y := fun _ _ _ => rfl
  have e2 : ∀ x y z : Int, rd [x, y, z] 2 = z := fun _ _ _ => rfl
  have l3 : ∀ x y z : Int, ((([x, y, z] : List Int).length : Nat) : Int) = 3 := fun _ _ _ => rfl
  have w1 : wrap64 (0 + 1) = 1 := by unfold wrap64; omega
  have w2 : wrap64 (1 + 1) = 2 := by unfold wrap64; omega
  have w3 : wrap64 (2 + 1) = 3 := by unfold wrap64; omega
  unfold modcertref24_Compare.f
  rw [modcertref24_Compare.l0, l3, l3, e0, e0, w1, if_pos (by omega), if_pos (by omega), if_pos (by omega), if_pos (by omega)]
  unfold cmpV
  by_cases h0 : a0 < b0
  · rw [if_pos h0, if_pos (by unfold cmpI; rw [if_pos h0]; decide)]; unfold cmpI; rw [if_pos h0]
  · rw [if_neg h0]
    by_cases h1 : b0 < a0
    · rw [if_pos (show a0 > b0 from h1), if_pos (by unfold cmpI; rw [if_neg h0, if_pos h1]; decide)]; unfold cmpI; rw [if_neg h0, if_pos h1]
    · have z0 : ¬ cmpI a0 b0 ≠ 0 := by unfold cmpI; rw [if_neg h0, if_neg h1]; decide
      rw [if_neg (show ¬ a0 > b0 from h1), if_neg z0, modcertref24_Compare.l0, l3, l3, e1, e1, w2, if_pos (by omega), if_pos (by omega), if_pos (by omega), if_pos (by omega)]
      by_cases h2 : a1 < b1
      · rw [if_pos h2, if_pos (by unfold cmpI; rw [if_pos h2]; decide)]; unfold cmpI; rw [if_pos h2]
      · rw [if_neg h2]
        by_cases h3 : b1 < a1
        · rw [if_pos (show a1 > b1 from h3), if_pos (by unfold cmpI; rw [if_neg h2, if_pos h3]; decide)]; unfold cmpI; rw [if_neg h2, if_pos h3]
        · have z1 : ¬ cmpI a1 b1 ≠ 0 := by unfold cmpI; rw [if_neg h2, if_neg h3]; decide
          rw [if_neg (show ¬ a1 > b1 from h3), if_neg z1, modcertref24_Compare.l0, l3, l3, e2, e2, w3, if_pos (by omega), if_pos (by omega), if_pos (by omega), if_pos (by omega)]
          unfold cmpI
          by_cases h4 : a2 < b2
          · rw [if_pos h4, if_pos h4]
          · rw [if_neg h4, if_neg h4]
            by_cases h5 : b2 < a2
            · rw [if_pos (show a2 > b2 from h5), if_pos h5]
            · rw [if_neg (show ¬ a2 > b2 from h5), if_neg h5, modcertref24_Compare.l0, if_neg (by omega)]
theorem ref_claims (k : Nat) (a0 a1 a2 b0 b1 b2 : Int) : modcertref24_Claims.f (k + 4) a0 a1 a2 b0 b1 b2 = some (if claimB a0 a1 a2 b0 b1 b2 = true then (lvl a0 a1 b0 b1, 0) else (0, 1)) := by
  unfold modcertref24_Claims.f claimB
  rw [valid_same, valid_same]
  simp only [Option.bind_some]
  by_cases ha : validB a0 a1 a2 = true
  · rw [if_pos ha, ha]
    by_cases hb : validB b0 b1 b2 = true
    · rw [if_pos hb, hb, ref_compare, Option.bind_some, modcertref24_Claims.j0]
      have p1 := cmpV_pos b0 b1 b2 a0 a1 a2
      have p2 := cmpV_neg a0 a1 a2 b0 b1 b2
      by_cases hc : 0 < cmpV b0 b1 b2 a0 a1 a2
      · rw [decide_eq_true hc, decide_eq_false (show ¬ cmpV a0 a1 a2 b0 b1 b2 ≥ 0 by have := p2.2 (p1.1 hc); omega), if_neg (by decide), if_pos (show (true && (true && true)) = true from rfl)]
        unfold lvl
        by_cases h0 : a0 = b0
        · rw [if_pos h0, if_pos h0]
          by_cases h1 : a1 = b1
          · rw [if_pos h1, if_pos h1]
          · rw [if_neg h1, if_neg h1]
        · rw [if_neg h0, if_neg h0]
      · rw [decide_eq_false hc, decide_eq_true (show cmpV a0 a1 a2 b0 b1 b2 ≥ 0 by
          by_cases h : cmpV a0 a1 a2 b0 b1 b2 < 0
          · exact absurd (p1.2 (p2.1 h)) hc
          · omega), if_pos rfl, if_neg (by decide)]
    · rw [if_neg hb, Bool.eq_false_iff.2 hb]; rfl
  · rw [if_neg ha, Bool.eq_false_iff.2 ha]; rfl
theorem ref_permits (k : Nat) (a0 a1 a2 b0 b1 b2 l : Int) : modcertref24_Permits.f (k + 4) a0 a1 a2 b0 b1 b2 l = some (permB a0 a1 a2 b0 b1 b2 l) := by
  unfold modcertref24_Permits.f
  rw [ref_claims, Option.bind_some]
  unfold permB
  by_cases hc : claimB a0 a1 a2 b0 b1 b2 = true
  · rw [if_pos hc, hc, if_pos (show (0 : Int) = 0 from rfl)]
    by_cases h0 : l ≥ 0
    · rw [if_pos h0, decide_eq_true (show (0 : Int) ≤ l from h0)]
      by_cases h2 : l ≤ 2
      · rw [decide_eq_true h2, if_pos h2]; simp
      · rw [decide_eq_false h2, if_neg h2]; simp
    · rw [if_neg h0, decide_eq_false (show ¬ (0 : Int) ≤ l from h0)]; simp
  · rw [if_neg hc, Bool.eq_false_iff.2 hc]; rfl
theorem ref_latest_from (xs : List S23) (hx : xs.length ≤ 1000) : ∀ (d i k : Nat), i + 1 + d = xs.length →
    modcertref24_Latest.l0 (d + k + 6) xs ((i + 1 : Nat) : Int) (bestUpto xs i).f0 (bestUpto xs i).f1 (bestUpto xs i).f2 = some ((bestUpto xs (xs.length - 1)).f0, (bestUpto xs (xs.length - 1)).f1, (bestUpto xs (xs.length - 1)).f2, true)
  | 0, i, k, hi => by
    rw [show 0 + k + 6 = (k + 5) + 1 by omega, modcertref24_Latest.l0, if_neg (by omega), decide_eq_true (by omega), show xs.length - 1 = i by omega]
  | d + 1, i, k, hi => by
    have ih := ref_latest_from xs hx d (i + 1) k (by omega)
    have hb : bestUpto xs (i + 1) = if 0 < cmpS (rd_T23 xs ((i + 1 : Nat) : Int)) (bestUpto xs i) then rd_T23 xs ((i + 1 : Nat) : Int) else bestUpto xs i := rfl
    rw [show d + 1 + k + 6 = (d + k + 6) + 1 by omega, modcertref24_Latest.l0, if_pos (by omega), if_neg (by omega), if_pos (by omega), show d + k + 6 = (d + k + 2) + 4 by omega, ref_compare, Option.bind_some, show d + k + 2 + 4 = d + k + 6 by omega, show wrap64 (((i + 1 : Nat) : Int) + 1) = ((i + 1 + 1 : Nat) : Int) by unfold wrap64; omega]
    unfold cmpS at hb
    by_cases hc : 0 < cmpV (rd_T23 xs ((i + 1 : Nat) : Int)).f0 (rd_T23 xs ((i + 1 : Nat) : Int)).f1 (rd_T23 xs ((i + 1 : Nat) : Int)).f2 (bestUpto xs i).f0 (bestUpto xs i).f1 (bestUpto xs i).f2
    · rw [if_pos hc] at hb
      rw [hb] at ih
      exact (if_pos hc).trans ih
    · rw [if_neg hc] at hb
      rw [hb] at ih
      exact (if_neg hc).trans ih
theorem ref_latest (xs : List S23) (hx : xs.length ≤ 40) : modcertref24_Latest.f 2000 xs = version_Latest.f xs := by
  unfold modcertref24_Latest.f version_Latest.f latestS
  rw [if_pos (show xs.length ≤ 9223372036854775807 by omega)]
  rw [show (2000 : Nat) = 1999 + 1 from rfl, modcertref24_Latest.l0]
  by_cases h0 : 0 < xs.length
  · rw [if_pos (by omega), if_pos (by omega), if_pos (by omega), if_pos h0, show wrap64 (0 + 1) = ((0 + 1 : Nat) : Int) by unfold wrap64; omega, show (1999 : Nat) = (xs.length - 1) + (1993 - (xs.length - 1)) + 6 by omega]
    exact ref_latest_from xs (by omega) (xs.length - 1) 0 _ (by omega)
  · rw [if_neg (by omega), if_neg h0, decide_eq_false (by omega)]
theorem ref_next (k : Nat) (a0 a1 a2 l : Int) : modcertref24_Next.f (k + 5) a0 a1 a2 l = some (nextB a0 a1 a2 l) := by
  have t0 : ∀ x y z : S23, rd_T23 [x, y, z] 0 = x := fun _ _ _ => rfl
  have t1 : ∀ x y z : S23, rd_T23 [x, y, z] 1 = y := fun _ _ _ => rfl
  have t2 : ∀ x y z : S23, rd_T23 [x, y, z] 2 = z := fun _ _ _ => rfl
  have l3 : ∀ x y z : S23, ((([x, y, z] : List S23).length : Nat) : Int) = 3 := fun _ _ _ => rfl
  have w1 : wrap64 (0 + 1) = 1 := by unfold wrap64; omega
  have w2 : wrap64 (1 + 1) = 2 := by unfold wrap64; omega
  have w3 : wrap64 (2 + 1) = 3 := by unfold wrap64; omega
  have jT : modcertref24_Next.j0 (k + 5) l true a0 a1 a2 = some (0, 0, 0, 1) := by rw [modcertref24_Next.j0, if_pos rfl]
  unfold modcertref24_Next.f nextB
  rw [valid_same, Option.bind_some]
  by_cases hv : validB a0 a1 a2 = true
  · obtain ⟨⟨p0, p1⟩, ⟨p2, p3⟩, p4, p5⟩ := valid_iff.1 hv
    rw [if_pos hv]
    by_cases hl : 0 ≤ l ∧ l ≤ 2
    · rw [if_neg (by omega), decide_eq_false (by omega), if_pos ⟨hv, hl⟩, modcertref24_Next.j0, if_neg (by decide)]
      rw [show wrap64 (a2 + 1) = a2 + 1 by unfold wrap64; omega, show wrap64 (a1 + 1) = a1 + 1 by unfold wrap64; omega, show wrap64 (a0 + 1) = a0 + 1 by unfold wrap64; omega]
      generalize hX : ([⟨a0, a1, a2 + 1⟩, ⟨a0, a1 + 1, 0⟩, ⟨a0 + 1, 0, 0⟩] : List S23) = X
      have hXl : (X.length : Int) = 3 := by rw [← hX]; rfl
      have x0 : rd_T23 X 0 = ⟨a0, a1, a2 + 1⟩ := by rw [← hX]; rfl
      have x1 : rd_T23 X 1 = ⟨a0, a1 + 1, 0⟩ := by rw [← hX]; rfl
      have x2 : rd_T23 X 2 = ⟨a0 + 1, 0, 0⟩ := by rw [← hX]; rfl
      clear hX
      have s3 : ∀ m, modcertref24_Next.l0 (m + 1) X 3 = some (0, 0, 0, 2) := fun m => by rw [modcertref24_Next.l0, if_neg (by omega)]
      have s2 : ∀ m, modcertref24_Next.l0 (m + 2) X 2 = some (if validB (a0 + 1) 0 0 = true then (a0 + 1, 0, 0, 0) else (0, 0, 0, 2)) := fun m => by
        rw [modcertref24_Next.l0, if_pos (by omega), if_pos (by omega), valid_same, x2, Option.bind_some, w3, s3]
        by_cases h : validB (a0 + 1) 0 0 = true
        · rw [if_pos h, if_pos h]
        · rw [if_neg h, if_neg h]
      have s1 : ∀ m, modcertref24_Next.l0 (m + 3) X 1 = some (if validB a0 (a1 + 1) 0 = true then (a0, a1 + 1, 0, 0) else if validB (a0 + 1) 0 0 = true then (a0 + 1, 0, 0, 0) else (0, 0, 0, 2)) := fun m => by
        rw [modcertref24_Next.l0, if_pos (by omega), if_pos (by omega), valid_same, x1, Option.bind_some, w2, s2]
        by_cases h : validB a0 (a1 + 1) 0 = true
        · rw [if_pos h, if_pos h]
        · rw [if_neg h, if_neg h]
      rcases (show l = 0 ∨ l = 1 ∨ l = 2 by omega) with rfl | rfl | rfl
      · rw [modcertref24_Next.l0, if_pos (by omega), if_pos (by omega), valid_same, x0, Option.bind_some, w1, s1]
        by_cases h : validB a0 a1 (a2 + 1) = true
        · simp [h]
        · simp [h]
      · rw [s1]
        simp
      · rw [s2]
        simp
    · rw [if_neg (show ¬ (validB a0 a1 a2 = true ∧ 0 ≤ l ∧ l ≤ 2) from fun q => hl q.2)]
      by_cases hn : l < 0
      · rw [if_pos hn, jT]
      · rw [if_neg hn, decide_eq_true (by omega), jT]
  · rw [if_neg hv, jT, if_neg (show ¬ (validB a0 a1 a2 = true ∧ 0 ≤ l ∧ l ≤ 2) from fun q => hv q.1)]
theorem VersionNumbers (a0 a1 a2 b0 b1 b2 l : Int) (xs : List S23) : modcertlaw24_VersionNumbers.f 2000 a0 a1 a2 b0 b1 b2 l xs = some true := by
  unfold modcertlaw24_VersionNumbers.f modcertlaw24_awake.f
  rw [Option.bind_some, if_pos rfl]
  by_cases hx : (xs.length : Int) > 40
  · rw [if_pos hx]
  · rw [if_neg hx, next_some 1998, ref_next 1995, claims_some 1999, ref_claims 1996, ref_latest xs (by omega), permits_some 1999, ref_permits 1996, ref_compare 1996]
    unfold version_Latest.f version_Compare.f
    rw [if_pos (show xs.length ≤ 9223372036854775807 by omega)]
    simp
end Go.Proofs.YtdccbpeajpnkjaaGreatDoor.Pr
