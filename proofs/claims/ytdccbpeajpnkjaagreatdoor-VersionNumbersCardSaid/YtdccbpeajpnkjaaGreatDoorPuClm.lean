/- What version.Claims and Permits answer, without fuel; no condition. -/
import Derived.Test.YtdccbpeajpnkjaaGreatDoorPuCmp
import Derived.Test.YtdccbpeajpnkjaaGreatDoorPr3
namespace Go.Proofs.YtdccbpeajpnkjaaGreatDoor.Pr
open Go.RowKit Go.Proofs.YtdccbpeajpnkjaaGreatDoorW.PrintWords Go.Proofs.YtdccbpeajpnkjaaGreatDoorW.PrintLast Go.Proofs.YtdccbpeajpnkjaaGreatDoorW.PrintMore
/-- the highest part in which two numbers differ. -/
def lvl (a0 a1 b0 b1 : Int) : Int := if a0 = b0 then (if a1 = b1 then 0 else 1) else 2
def claimB (a0 a1 a2 b0 b1 b2 : Int) : Bool := validB a0 a1 a2 && (validB b0 b1 b2 && decide (0 < cmpV b0 b1 b2 a0 a1 a2))
theorem claims_some (k : Nat) (a0 a1 a2 b0 b1 b2 : Int) : version_Claims.f (k + 1) a0 a1 a2 b0 b1 b2 = some (if claimB a0 a1 a2 b0 b1 b2 = true then (lvl a0 a1 b0 b1, 0) else (0, 1)) := by
  unfold version_Claims.f version_Valid.f version_Compare.f claimB
  simp only [Option.bind_some]
  by_cases ha : validB a0 a1 a2 = true
  · by_cases hb : validB b0 b1 b2 = true
    · by_cases hc : 0 < cmpV b0 b1 b2 a0 a1 a2
      · rw [if_pos ha, if_pos hb, ha, hb, decide_eq_true hc, if_pos (by rfl), show decide (cmpV b0 b1 b2 a0 a1 a2 ≤ 0) = false from decide_eq_false (by omega)]
        rw [version_Claims.j0, if_neg (by decide)]
        unfold lvl
        split
        · split <;> rfl
        · rfl
      · rw [if_pos ha, if_pos hb, ha, hb, decide_eq_false hc, if_neg (by decide), show decide (cmpV b0 b1 b2 a0 a1 a2 ≤ 0) = true from decide_eq_true (by omega)]
        rfl
    · rw [if_pos ha, if_neg hb, ha, Bool.eq_false_iff.2 hb]; rfl
  · rw [if_neg ha, Bool.eq_false_iff.2 ha]; rfl
def permB (a0 a1 a2 b0 b1 b2 l : Int) : Bool := claimB a0 a1 a2 b0 b1 b2 && (decide (0 ≤ l) && (decide (l ≤ 2) && decide (l ≤ lvl a0 a1 b0 b1)))
theorem permits_some (k : Nat) (a0 a1 a2 b0 b1 b2 l : Int) : version_Permits.f (k + 1) a0 a1 a2 b0 b1 b2 l = some (permB a0 a1 a2 b0 b1 b2 l) := by
  unfold version_Permits.f
  rw [claims_some, Option.bind_some]
  unfold permB version_known.f
  by_cases hc : claimB a0 a1 a2 b0 b1 b2 = true
  · rw [if_pos hc, hc]
    rw [if_pos (show (0 : Int) = 0 from rfl)]
    by_cases h0 : l ≥ 0
    · rw [if_pos h0, Option.bind_some, decide_eq_true (show (0 : Int) ≤ l from h0)]
      by_cases h2 : l ≤ 2
      · rw [decide_eq_true h2, if_pos rfl]; simp
      · rw [decide_eq_false h2, if_neg (by decide)]; simp
    · rw [if_neg h0, Option.bind_some, if_neg (by decide), decide_eq_false (show ¬ (0 : Int) ≤ l from h0)]; simp
  · rw [if_neg hc, Bool.eq_false_iff.2 hc]; rfl
theorem permB_iff {a0 a1 a2 b0 b1 b2 l : Int} : permB a0 a1 a2 b0 b1 b2 l = true ↔ (validB a0 a1 a2 = true ∧ validB b0 b1 b2 = true ∧ lexLt a0 a1 a2 b0 b1 b2) ∧ 0 ≤ l ∧ l ≤ 2 ∧ l ≤ lvl a0 a1 b0 b1 := by
  unfold permB claimB
  simp only [Bool.and_eq_true, decide_eq_true_eq, cmpV_pos]
theorem lvl_trans {a0 a1 a2 b0 b1 b2 c0 c1 c2 : Int} (h1 : lexLt a0 a1 a2 b0 b1 b2) (h2 : lexLt b0 b1 b2 c0 c1 c2) : lexLt a0 a1 a2 c0 c1 c2 ∧ lvl a0 a1 b0 b1 ≤ lvl a0 a1 c0 c1 ∧ lvl b0 b1 c0 c1 ≤ lvl a0 a1 c0 c1 := by
  unfold lexLt at *
  refine ⟨by omega, ?_, ?_⟩
  · unfold lvl; repeat' split <;> omega
  · unfold lvl; repeat' split <;> omega
end Go.Proofs.YtdccbpeajpnkjaaGreatDoor.Pr
