/- The law VersionOrder in plain Lean: version.Compare is a total order, and Latest a greatest number of the list; no condition. -/
import Derived.Test.YtdccbpeajpnkjaaDoorPuCmp
import Derived.Test.YtdccbpeajpnkjaaDoorPr12
namespace Go.Proofs.YtdccbpeajpnkjaaDoor.Pr
open Go.RowKit Go.Proofs.YtdccbpeajpnkjaaDoorW.PrintWords Go.Proofs.YtdccbpeajpnkjaaDoorW.PrintLast Go.Proofs.YtdccbpeajpnkjaaDoorW.PrintMore
theorem cmpI_range (x y : Int) : cmpI x y = -1 ∨ cmpI x y = 0 ∨ cmpI x y = 1 := by
  unfold cmpI
  split
  · exact .inl rfl
  · split
    · exact .inr (.inr rfl)
    · exact .inr (.inl rfl)
theorem cmpV_range (a0 a1 a2 b0 b1 b2 : Int) : cmpV a0 a1 a2 b0 b1 b2 = -1 ∨ cmpV a0 a1 a2 b0 b1 b2 = 0 ∨ cmpV a0 a1 a2 b0 b1 b2 = 1 := by
  have h0 := cmpI_range a0 b0; have h1 := cmpI_range a1 b1; have h2 := cmpI_range a2 b2
  unfold cmpV
  split
  · exact h0
  · split
    · exact h1
    · exact h2
theorem cmpV_flip (a0 a1 a2 b0 b1 b2 : Int) : cmpV b0 b1 b2 a0 a1 a2 = -cmpV a0 a1 a2 b0 b1 b2 := by
  have r1 := cmpV_range a0 a1 a2 b0 b1 b2; have r2 := cmpV_range b0 b1 b2 a0 a1 a2
  have p1 := cmpV_pos a0 a1 a2 b0 b1 b2; have p2 := cmpV_pos b0 b1 b2 a0 a1 a2
  have n1 := cmpV_neg a0 a1 a2 b0 b1 b2; have n2 := cmpV_neg b0 b1 b2 a0 a1 a2
  have e1 : 0 < cmpV a0 a1 a2 b0 b1 b2 ↔ cmpV b0 b1 b2 a0 a1 a2 < 0 := p1.trans n2.symm
  have e2 : 0 < cmpV b0 b1 b2 a0 a1 a2 ↔ cmpV a0 a1 a2 b0 b1 b2 < 0 := p2.trans n1.symm
  clear p1 p2 n1 n2
  generalize cmpV a0 a1 a2 b0 b1 b2 = x at *
  generalize cmpV b0 b1 b2 a0 a1 a2 = y at *
  omega
theorem cmpV_eq0 (a0 a1 a2 b0 b1 b2 : Int) : cmpV a0 a1 a2 b0 b1 b2 = 0 ↔ (a0 = b0 ∧ a1 = b1 ∧ a2 = b2) := by
  have p1 := cmpV_pos a0 a1 a2 b0 b1 b2; have n1 := cmpV_neg a0 a1 a2 b0 b1 b2
  unfold lexLt at p1 n1
  generalize cmpV a0 a1 a2 b0 b1 b2 = x at *
  constructor
  · intro h
    have h1 : ¬ (b0 < a0 ∨ (b0 = a0 ∧ (b1 < a1 ∨ (b1 = a1 ∧ b2 < a2)))) := fun q => by have := p1.2 q; omega
    have h2 : ¬ (a0 < b0 ∨ (a0 = b0 ∧ (a1 < b1 ∨ (a1 = b1 ∧ a2 < b2)))) := fun q => by have := n1.2 q; omega
    clear p1 n1
    omega
  · rintro ⟨rfl, rfl, rfl⟩
    have h1 : ¬ 0 < x := fun q => by have := p1.1 q; omega
    have h2 : ¬ x < 0 := fun q => by have := n1.1 q; omega
    omega
theorem cmpV_le {a0 a1 a2 b0 b1 b2 c0 c1 c2 : Int} (h1 : cmpV a0 a1 a2 b0 b1 b2 ≤ 0) (h2 : cmpV b0 b1 b2 c0 c1 c2 ≤ 0) : cmpV a0 a1 a2 c0 c1 c2 ≤ 0 := by
  have p1 : ¬ lexLt b0 b1 b2 a0 a1 a2 := fun q => by have := (cmpV_pos a0 a1 a2 b0 b1 b2).2 q; omega
  have p2 : ¬ lexLt c0 c1 c2 b0 b1 b2 := fun q => by have := (cmpV_pos b0 b1 b2 c0 c1 c2).2 q; omega
  have p3 : ¬ lexLt c0 c1 c2 a0 a1 a2 := by unfold lexLt at *; omega
  exact Int.not_lt.1 (fun q => p3 ((cmpV_pos a0 a1 a2 c0 c1 c2).1 q))
theorem cmpV_ge {a0 a1 a2 b0 b1 b2 c0 c1 c2 : Int} (h1 : 0 ≤ cmpV a0 a1 a2 b0 b1 b2) (h2 : 0 ≤ cmpV b0 b1 b2 c0 c1 c2) : 0 ≤ cmpV a0 a1 a2 c0 c1 c2 := by
  have f1 := cmpV_flip a0 a1 a2 b0 b1 b2; have f2 := cmpV_flip b0 b1 b2 c0 c1 c2; have f3 := cmpV_flip a0 a1 a2 c0 c1 c2
  have := cmpV_le (a0 := c0) (a1 := c1) (a2 := c2) (b0 := b0) (b1 := b1) (b2 := b2) (c0 := a0) (c1 := a1) (c2 := a2) (by omega) (by omega)
  omega
theorem best_mem (xs : List S23) : ∀ k : Nat, ∃ j, j ≤ k ∧ bestUpto xs k = rd_T23 xs ((j : Nat) : Int)
  | 0 => ⟨0, Nat.le_refl _, rfl⟩
  | k + 1 => by
    obtain ⟨j, hj, e⟩ := best_mem xs k
    unfold bestUpto
    by_cases h : 0 < cmpS (rd_T23 xs ((k + 1 : Nat) : Int)) (bestUpto xs k)
    · rw [if_pos h]; exact ⟨k + 1, Nat.le_refl _, rfl⟩
    · rw [if_neg h]; exact ⟨j, by omega, e⟩
theorem best_max (xs : List S23) : ∀ k i : Nat, i ≤ k → cmpS (rd_T23 xs ((i : Nat) : Int)) (bestUpto xs k) ≤ 0
  | 0, i, h => by
    obtain rfl : i = 0 := by omega
    show cmpV _ _ _ _ _ _ ≤ 0
    have := (cmpV_eq0 (rd_T23 xs ((0 : Nat) : Int)).f0 (rd_T23 xs ((0 : Nat) : Int)).f1 (rd_T23 xs ((0 : Nat) : Int)).f2 _ _ _).2 ⟨rfl, rfl, rfl⟩
    exact Int.le_of_eq this
  | k + 1, i, h => by
    unfold bestUpto
    by_cases hc : 0 < cmpS (rd_T23 xs ((k + 1 : Nat) : Int)) (bestUpto xs k)
    · rw [if_pos hc]
      by_cases hi : i = k + 1
      · subst hi
        exact Int.le_of_eq ((cmpV_eq0 _ _ _ _ _ _).2 ⟨rfl, rfl, rfl⟩)
      · have h1 := best_max xs k i (by omega)
        unfold cmpS at *
        refine cmpV_le h1 ?_
        have := cmpV_flip (rd_T23 xs ((k + 1 : Nat) : Int)).f0 (rd_T23 xs ((k + 1 : Nat) : Int)).f1 (rd_T23 xs ((k + 1 : Nat) : Int)).f2 (bestUpto xs k).f0 (bestUpto xs k).f1 (bestUpto xs k).f2
        omega
    · rw [if_neg hc]
      by_cases hi : i = k + 1
      · subst hi; omega
      · exact best_max xs k i (by omega)
theorem order_loop (xs : List S23) (b : S23) (hx : xs.length ≤ 1000) (hm : ∀ i : Nat, i < xs.length → cmpS (rd_T23 xs (i : Int)) b ≤ 0) : ∀ (d i k : Nat) (found : Bool), i + d = xs.length → (found = true ∨ ∃ j : Nat, i ≤ j ∧ j < xs.length ∧ b = rd_T23 xs (j : Int)) →
    modcertlaw24_VersionOrder.l0 (d + k + 1) found xs (xs.length : Int) (i : Int) b.f0 b.f1 b.f2 = some true
  | 0, i, k, found, hi, hf => by
    rw [modcertlaw24_VersionOrder.l0, if_neg (by omega)]
    rcases hf with rfl | ⟨j, h1, h2, _⟩
    · rfl
    · omega
  | d + 1, i, k, found, hi, hf => by
    have hc := hm i (by omega)
    unfold cmpS at hc
    have hw : wrap64 ((i : Int) + 1) = ((i + 1 : Nat) : Int) := by unfold wrap64; omega
    rw [show d + 1 + k + 1 = (d + k + 1) + 1 by omega, modcertlaw24_VersionOrder.l0, if_pos (by omega), if_pos (by omega), if_pos (by omega), hw]
    unfold version_Compare.f
    by_cases hfo : found = true
    · rw [if_pos hfo, Option.bind_some, if_neg (by omega)]
      exact order_loop xs b hx hm d (i + 1) k true (by omega) (.inl rfl)
    · rw [if_neg hfo, Option.bind_some, if_neg (by omega)]
      refine order_loop xs b hx hm d (i + 1) k _ (by omega) ?_
      rcases hf with h | ⟨j, h1, h2, h3⟩
      · exact absurd h hfo
      · by_cases hj : j = i
        · subst hj
          left
          rw [h3]
          simp
        · exact .inr ⟨j, by omega, h2, h3⟩
theorem order_tail (xs : List S23) (hx : xs.length ≤ 40) (k : Nat) (hk : 100 ≤ k) : modcertlaw24_VersionOrder.j0 (k + 1) xs false = some true := by
  rw [modcertlaw24_VersionOrder.j0, if_neg (by decide)]
  unfold version_Latest.f latestS
  rw [if_pos (by omega), Option.bind_some]
  by_cases h0 : 0 < xs.length
  · rw [if_pos h0]
    obtain ⟨j, hj, e⟩ := best_mem xs (xs.length - 1)
    have h := order_loop xs (bestUpto xs (xs.length - 1)) (by omega) (fun i hi => best_max xs (xs.length - 1) i (by omega)) xs.length 0 (k - xs.length - 1) false (by omega) (.inr ⟨j, Nat.zero_le _, by omega, e⟩)
    rw [show xs.length + (k - xs.length - 1) + 1 = k by omega] at h
    rw [if_pos rfl]
    exact h
  · rw [if_neg h0, if_neg (by decide)]
    simp only [Option.some.injEq, beq_iff_eq]
    omega
theorem VersionOrder (a0 a1 a2 b0 b1 b2 c0 c1 c2 : Int) (xs : List S23) : modcertlaw24_VersionOrder.f 2000 a0 a1 a2 b0 b1 b2 c0 c1 c2 xs = some true := by
  unfold modcertlaw24_VersionOrder.f modcertlaw24_awake.f
  rw [Option.bind_some, if_pos rfl]
  by_cases hx : (xs.length : Int) > 40
  · rw [if_pos hx]
  · rw [if_neg hx]
    have ht : modcertlaw24_VersionOrder.j0 2000 xs false = some true := order_tail xs (by omega) 1999 (by omega)
    have r := cmpV_range a0 a1 a2 b0 b1 b2
    have f := cmpV_flip a0 a1 a2 b0 b1 b2
    have z := cmpV_eq0 a0 a1 a2 b0 b1 b2
    have le := @cmpV_le a0 a1 a2 b0 b1 b2 c0 c1 c2
    have ge := @cmpV_ge a0 a1 a2 b0 b1 b2 c0 c1 c2
    unfold version_Compare.f
    simp only [Option.bind_some]
    rw [f]
    generalize cmpV a0 a1 a2 b0 b1 b2 = x at *
    generalize cmpV b0 b1 b2 c0 c1 c2 = y at *
    generalize cmpV a0 a1 a2 c0 c1 c2 = v at *
    have e : ((x == 0) != (a0 == b0 && (a1 == b1 && (a2 == b2)))) = false := by
      have : (x == 0) = (a0 == b0 && (a1 == b1 && (a2 == b2))) := by
        rw [Bool.eq_iff_iff]
        simp only [beq_iff_eq, Bool.and_eq_true]
        exact z
      rw [this]; simp
    rw [if_neg (by omega), if_neg (by omega), if_pos (by unfold wrap64; omega), e, if_neg (by decide)]
    by_cases h1 : x ≤ 0
    · rw [if_pos h1]
      by_cases h2 : y ≤ 0
      · rw [if_pos h2, if_neg (by have := le h1 h2; omega)]
        by_cases h3 : x ≥ 0
        · rw [if_pos h3]
          by_cases h4 : y ≥ 0
          · rw [if_pos h4, decide_eq_false (by have := ge h3 h4; omega), ht]
          · rw [if_neg h4, ht]
        · rw [if_neg h3, ht]
      · rw [if_neg h2]
        by_cases h3 : x ≥ 0
        · rw [if_pos h3, if_pos (by omega), decide_eq_false (by have := ge h3 (by omega); omega), ht]
        · rw [if_neg h3, ht]
    · rw [if_neg h1, if_pos (by omega)]
      by_cases h4 : y ≥ 0
      · rw [if_pos h4, decide_eq_false (by have := ge (by omega) h4; omega), ht]
      · rw [if_neg h4, ht]
end Go.Proofs.YtdccbpeajpnkjaaDoor.Pr
