/- What version.Claims, Permits and Next answer, without fuel; the laws VersionSteps and VersionLeast in plain Lean: no condition. -/
import Derived.Test.YtdccbpeajpnkjaaDoorPr11
namespace Go.Proofs.YtdccbpeajpnkjaaDoor.Pr
open Go.RowKit Go.Proofs.YtdccbpeajpnkjaaDoorW.PrintWords Go.Proofs.YtdccbpeajpnkjaaDoorW.PrintLast Go.Proofs.YtdccbpeajpnkjaaDoorW.PrintMore
def lexLt (a0 a1 a2 b0 b1 b2 : Int) : Prop := a0 < b0 ∨ (a0 = b0 ∧ (a1 < b1 ∨ (a1 = b1 ∧ a2 < b2)))
theorem cmpI_pos (x y : Int) : 0 < cmpI x y ↔ y < x := by
  unfold cmpI
  split
  · omega
  · split <;> omega
theorem cmpI_neg (x y : Int) : cmpI x y < 0 ↔ x < y := by
  unfold cmpI
  split
  · omega
  · split <;> omega
theorem cmpI_zero (x y : Int) : cmpI x y = 0 ↔ x = y := by
  unfold cmpI
  split
  · omega
  · split <;> omega
theorem cmpV_pos (a0 a1 a2 b0 b1 b2 : Int) : 0 < cmpV a0 a1 a2 b0 b1 b2 ↔ lexLt b0 b1 b2 a0 a1 a2 := by
  have p0 := cmpI_pos a0 b0; have p1 := cmpI_pos a1 b1; have p2 := cmpI_pos a2 b2
  have z0 := cmpI_zero a0 b0; have z1 := cmpI_zero a1 b1
  unfold cmpV lexLt
  split
  · omega
  · split <;> omega
theorem cmpV_neg (a0 a1 a2 b0 b1 b2 : Int) : cmpV a0 a1 a2 b0 b1 b2 < 0 ↔ lexLt a0 a1 a2 b0 b1 b2 := by
  have p0 := cmpI_neg a0 b0; have p1 := cmpI_neg a1 b1; have p2 := cmpI_neg a2 b2
  have z0 := cmpI_zero a0 b0; have z1 := cmpI_zero a1 b1
  unfold cmpV lexLt
  split
  · omega
  · split <;> omega
/-- the highest part in which two numbers differ. -/
def lvl (a0 a1 b0 b1 : Int) : Int := if a0 = b0 then (if a1 = b1 then 0 else 1) else 2
def claimB (a0 a1 a2 b0 b1 b2 : Int) : Bool := validB a0 a1 a2 && (validB b0 b1 b2 && decide (0 < cmpV b0 b1 b2 a0 a1 a2))
theorem claims_some (k : Nat) (a0 a1 a2 b0 b1 b2 : Int) : version_Claims.f (k + 1) a0 a1 a2 b0 b1 b2 = some (if claimB a0 a1 a2 b0 b1 b2 = true then (lvl a0 a1 b0 b1, 0) else (0, 1)) := by
  unfold version_Claims.f version_Valid.f version_Compare.f claimB
  simp only [Option.bind_some]
  by_cases ha : validB a0 a1 a2 = true
  · by_cases hb : validB b0 b1 b2 = true
    · by_cases hc : 0 < cmpV b0 b1 b2 a0 a1 a2
      · rw [if_pos ha, if_pos hb, ha, hb, decide_eq_true hc, if_pos (by rfl), show decide (cmpV b0 b1 b2 a0 a1 a2 ≤ 0) = false from decide_eq_false (by omega)]
        rw [version_Claims.j0, if_neg (by decide)]
        unfold lvl
        split
        · split <;> rfl
        · rfl
      · rw [if_pos ha, if_pos hb, ha, hb, decide_eq_false hc, if_neg (by decide), show decide (cmpV b0 b1 b2 a0 a1 a2 ≤ 0) = true from decide_eq_true (by omega)]
        rfl
    · rw [if_pos ha, if_neg hb, ha, Bool.eq_false_iff.2 hb]; rfl
  · rw [if_neg ha, Bool.eq_false_iff.2 ha]; rfl
def permB (a0 a1 a2 b0 b1 b2 l : Int) : Bool := claimB a0 a1 a2 b0 b1 b2 && (decide (0 ≤ l) && (decide (l ≤ 2) && decide (l ≤ lvl a0 a1 b0 b1)))
theorem permits_some (k : Nat) (a0 a1 a2 b0 b1 b2 l : Int) : version_Permits.f (k + 1) a0 a1 a2 b0 b1 b2 l = some (permB a0 a1 a2 b0 b1 b2 l) := by
  unfold version_Permits.f
  rw [claims_some, Option.bind_some]
  unfold permB version_known.f
  by_cases hc : claimB a0 a1 a2 b0 b1 b2 = true
  · rw [if_pos hc, hc]
    rw [if_pos (show (0 : Int) = 0 from rfl)]
    by_cases h0 : l ≥ 0
    · rw [if_pos h0, Option.bind_some, decide_eq_true (show (0 : Int) ≤ l from h0)]
      by_cases h2 : l ≤ 2
      · rw [decide_eq_true h2, if_pos rfl]; simp
      · rw [decide_eq_false h2, if_neg (by decide)]; simp
    · rw [if_neg h0, Option.bind_some, if_neg (by decide), decide_eq_false (show ¬ (0 : Int) ≤ l from h0)]; simp
  · rw [if_neg hc, Bool.eq_false_iff.2 hc]; rfl
theorem permB_iff {a0 a1 a2 b0 b1 b2 l : Int} : permB a0 a1 a2 b0 b1 b2 l = true ↔ (validB a0 a1 a2 = true ∧ validB b0 b1 b2 = true ∧ lexLt a0 a1 a2 b0 b1 b2) ∧ 0 ≤ l ∧ l ≤ 2 ∧ l ≤ lvl a0 a1 b0 b1 := by
  unfold permB claimB
  simp only [Bool.and_eq_true, decide_eq_true_eq, cmpV_pos]
theorem lvl_trans {a0 a1 a2 b0 b1 b2 c0 c1 c2 : Int} (h1 : lexLt a0 a1 a2 b0 b1 b2) (h2 : lexLt b0 b1 b2 c0 c1 c2) : lexLt a0 a1 a2 c0 c1 c2 ∧ lvl a0 a1 b0 b1 ≤ lvl a0 a1 c0 c1 ∧ lvl b0 b1 c0 c1 ≤ lvl a0 a1 c0 c1 := by
  unfold lexLt at *
  refine ⟨by omega, ?_, ?_⟩
  · unfold lvl; repeat' split <;> omega
  · unfold lvl; repeat' split <;> omega
theorem steps_last (k : Nat) (a0 a1 a2 b0 b1 b2 c0 c1 c2 m n x : Int) (h : permB a0 a1 a2 b0 b1 b2 m = true) : modcertlaw24_VersionSteps.j1 (k + 2) m n x false a0 a1 a2 b0 b1 b2 c0 c1 c2 = some true := by
  rw [modcertlaw24_VersionSteps.j1, if_neg (by decide), permits_some, Option.bind_some]
  by_cases h2 : permB b0 b1 b2 c0 c1 c2 n = true
  · rw [if_pos h2, permits_some, Option.bind_some]
    congr 1
    rw [permB_iff] at h h2 ⊢
    have ht := lvl_trans h.1.2.2 h2.1.2.2
    refine ⟨⟨h.1.1, h2.1.2.1, ht.1⟩, ?_⟩
    unfold mx
    split <;> omega
  · rw [if_neg h2]
theorem steps_loop (a0 a1 a2 b0 b1 b2 c0 c1 c2 m n : Int) (h : permB a0 a1 a2 b0 b1 b2 m = true) : ∀ (d k : Nat) (x : Int), 0 ≤ x → (3 : Int) ≤ x + d → modcertlaw24_VersionSteps.l0 (2 * d + k + 4) m n x a0 a1 a2 b0 b1 b2 c0 c1 c2 = some true
  | d, k, x, hx, hd => by
    rw [modcertlaw24_VersionSteps.l0]
    have hm := (permB_iff.1 h)
    by_cases h1 : x ≤ m
    · rw [if_pos h1, decide_eq_true (show x ≤ 2 by omega)]
      match d, hd with
      | 0, hd => omega
      | d + 1, hd =>
        rw [show 2 * (d + 1) + k + 3 = (2 * d + k + 4) + 1 from by omega, modcertlaw24_VersionSteps.j1, if_pos rfl, show 2 * d + k + 4 = (2 * d + k + 3) + 1 from by omega, permits_some, Option.bind_some, if_pos (by rw [permB_iff]; exact ⟨hm.1, by omega⟩)]
        rw [show wrap64 (x + 1) = x + 1 from by unfold wrap64; omega]
        exact steps_loop a0 a1 a2 b0 b1 b2 c0 c1 c2 m n h d k (x + 1) (by omega) (by omega)
    · rw [if_neg h1]
      exact steps_last _ _ _ _ _ _ _ _ _ _ _ _ _ h
theorem VersionSteps (a0 a1 a2 b0 b1 b2 c0 c1 c2 m n : Int) : modcertlaw24_VersionSteps.f 20 a0 a1 a2 b0 b1 b2 c0 c1 c2 m n = some true := by
  unfold modcertlaw24_VersionSteps.f modcertlaw24_awake.f
  rw [Option.bind_some, if_pos rfl, permits_some, Option.bind_some]
  by_cases h : permB a0 a1 a2 b0 b1 b2 m = true
  · rw [if_pos h]
    exact steps_loop a0 a1 a2 b0 b1 b2 c0 c1 c2 m n h 3 10 0 (by omega) (by omega)
  · rw [if_neg h]
end Go.Proofs.YtdccbpeajpnkjaaDoor.Pr
