/- What version.Next answers, without fuel; the law VersionLeast in plain Lean: no condition. -/
import Derived.Test.YtdccbpeajpnkjaaDoorPuVer
namespace Go.Proofs.YtdccbpeajpnkjaaDoor.Pr
open Go.RowKit Go.Proofs.YtdccbpeajpnkjaaDoorW.PrintWords Go.Proofs.YtdccbpeajpnkjaaDoorW.PrintLast Go.Proofs.YtdccbpeajpnkjaaDoorW.PrintMore
theorem valid_iff {a b c : Int} : validB a b c = true ↔ (0 ≤ a ∧ a ≤ 999) ∧ (0 ≤ b ∧ b ≤ 999) ∧ (0 ≤ c ∧ c ≤ 999) := by
  unfold validB okPart
  simp only [Bool.and_eq_true, decide_eq_true_eq]
def nextB (a0 a1 a2 l : Int) : Int × Int × Int × Int :=
  if validB a0 a1 a2 = true ∧ 0 ≤ l ∧ l ≤ 2 then
    (if l = 0 ∧ validB a0 a1 (a2 + 1) = true then (a0, a1, a2 + 1, 0)
     else if l ≠ 2 ∧ validB a0 (a1 + 1) 0 = true then (a0, a1 + 1, 0, 0)
     else if validB (a0 + 1) 0 0 = true then (a0 + 1, 0, 0, 0) else (0, 0, 0, 2))
  else (0, 0, 0, 1)
theorem next_tail (k : Nat) (a0 a1 a2 l : Int) (h0 : 0 ≤ a0 ∧ a0 ≤ 999) (h1 : 0 ≤ a1 ∧ a1 ≤ 999) : version_Next.j1 (k + 1) l a0 a1 a2 = some (if l ≠ 2 ∧ validB a0 (a1 + 1) 0 = true then (a0, a1 + 1, 0, 0) else if validB (a0 + 1) 0 0 = true then (a0 + 1, 0, 0, 0) else (0, 0, 0, 2)) := by
  rw [version_Next.j1]
  have w0 : wrap64 (a0 + 1) = a0 + 1 := by unfold wrap64; omega
  have w1 : wrap64 (a1 + 1) = a1 + 1 := by unfold wrap64; omega
  rw [w0, w1]
  unfold version_Valid.f
  simp only [Option.bind_some]
  by_cases hl : l = 2
  · rw [if_pos hl, if_neg (show ¬ (l ≠ 2 ∧ validB a0 (a1 + 1) 0 = true) from fun h => h.1 hl)]
    split <;> rfl
  · rw [if_neg hl]
    by_cases hv : validB a0 (a1 + 1) 0 = true
    · rw [if_pos hv, if_pos (show l ≠ 2 ∧ validB a0 (a1 + 1) 0 = true from ⟨hl, hv⟩)]
    · rw [if_neg hv, if_neg (show ¬ (l ≠ 2 ∧ validB a0 (a1 + 1) 0 = true) from fun h => hv h.2)]
      split <;> rfl
theorem next_some (k : Nat) (a0 a1 a2 l : Int) : version_Next.f (k + 2) a0 a1 a2 l = some (nextB a0 a1 a2 l) := by
  unfold version_Next.f version_known.f
  rw [show version_Valid.f a0 a1 a2 = some (validB a0 a1 a2) from rfl, Option.bind_some]
  unfold nextB
  by_cases hv : validB a0 a1 a2 = true
  · have hi := valid_iff.1 hv
    rw [if_pos hv]
    by_cases h0 : l ≥ 0
    · rw [if_pos h0, Option.bind_some]
      by_cases h2 : l ≤ 2
      · rw [decide_eq_true h2, if_pos (show validB a0 a1 a2 = true ∧ 0 ≤ l ∧ l ≤ 2 from ⟨hv, h0, h2⟩)]
        rw [version_Next.j0, if_neg (by decide), next_tail k a0 a1 _ l hi.1 hi.2.1, next_tail k a0 a1 _ l hi.1 hi.2.1]
        rw [show wrap64 (a2 + 1) = a2 + 1 from by unfold wrap64; omega]
        rw [show version_Valid.f a0 a1 (a2 + 1) = some (validB a0 a1 (a2 + 1)) from rfl, Option.bind_some]
        by_cases hz : l = 0
        · rw [if_pos hz]
          by_cases hw : validB a0 a1 (a2 + 1) = true
          · rw [if_pos hw, if_pos (show l = 0 ∧ validB a0 a1 (a2 + 1) = true from ⟨hz, hw⟩)]
          · rw [if_neg hw, if_neg (show ¬ (l = 0 ∧ validB a0 a1 (a2 + 1) = true) from fun h => hw h.2)]
        · rw [if_neg hz, if_neg (show ¬ (l = 0 ∧ validB a0 a1 (a2 + 1) = true) from fun h => hz h.1)]
      · rw [decide_eq_false h2, if_neg (show ¬ (validB a0 a1 a2 = true ∧ 0 ≤ l ∧ l ≤ 2) from fun h => h2 h.2.2), version_Next.j0, if_pos (by decide)]
    · rw [if_neg h0, Option.bind_some, if_neg (show ¬ (validB a0 a1 a2 = true ∧ 0 ≤ l ∧ l ≤ 2) from fun h => h0 h.2.1), version_Next.j0, if_pos (by decide)]
  · rw [if_neg hv, if_neg (show ¬ (validB a0 a1 a2 = true ∧ 0 ≤ l ∧ l ≤ 2) from fun h => hv h.1), version_Next.j0, if_pos rfl]
/-- Next's answer: an argument that is none; or no valid number is permitted; or the least that is. -/
theorem next_spec (a0 a1 a2 l : Int) : nextB a0 a1 a2 l = (0, 0, 0, 1) ∨ (nextB a0 a1 a2 l = (0, 0, 0, 2) ∧ ∀ o0 o1 o2, permB a0 a1 a2 o0 o1 o2 l = false) ∨
    ∃ n0 n1 n2, nextB a0 a1 a2 l = (n0, n1, n2, 0) ∧ permB a0 a1 a2 n0 n1 n2 l = true ∧ ∀ o0 o1 o2, permB a0 a1 a2 o0 o1 o2 l = true → ¬ lexLt o0 o1 o2 n0 n1 n2 := by
  unfold nextB
  by_cases h : validB a0 a1 a2 = true ∧ 0 ≤ l ∧ l ≤ 2
  · rw [if_pos h]
    have ha := valid_iff.1 h.1
    by_cases hx : l = 0 ∧ validB a0 a1 (a2 + 1) = true
    · rw [if_pos hx]
      refine .inr (.inr ⟨_, _, _, rfl, permB_iff.2 ⟨⟨h.1, hx.2, ?_⟩, h.2.1, h.2.2, ?_⟩, fun o0 o1 o2 ho => ?_⟩)
      · unfold lexLt; omega
      · unfold lvl; rw [if_pos rfl, if_pos rfl]; omega
      · have := (permB_iff.1 ho).1.2.2
        unfold lexLt at *; omega
    · rw [if_neg hx]
      have hx' : l = 0 → a2 = 999 := fun e => by
        have : ¬ validB a0 a1 (a2 + 1) = true := fun h2 => hx ⟨e, h2⟩
        rw [valid_iff] at this; omega
      by_cases hy : l ≠ 2 ∧ validB a0 (a1 + 1) 0 = true
      · rw [if_pos hy]
        refine .inr (.inr ⟨_, _, _, rfl, permB_iff.2 ⟨⟨h.1, hy.2, ?_⟩, h.2.1, h.2.2, ?_⟩, fun o0 o1 o2 ho => ?_⟩)
        · unfold lexLt; omega
        · unfold lvl; rw [if_pos rfl, if_neg (by omega)]; omega
        · have hp := permB_iff.1 ho
          have hv := valid_iff.1 hp.1.2.1
          have hl := hp.1.2.2
          have hg := hp.2.2.2
          unfold lvl at hg
          unfold lexLt at *
          by_cases e0 : a0 = o0
          · rw [if_pos e0] at hg
            by_cases e1 : a1 = o1
            · rw [if_pos e1] at hg; omega
            · omega
          · omega
      · rw [if_neg hy]
        have hy' : l ≠ 2 → a1 = 999 := fun e => by
          have : ¬ validB a0 (a1 + 1) 0 = true := fun h2 => hy ⟨e, h2⟩
          rw [valid_iff] at this; omega
        have hmore : ∀ o0 o1 o2, permB a0 a1 a2 o0 o1 o2 l = true → a0 < o0 := fun o0 o1 o2 ho => by
          have hp := permB_iff.1 ho
          have hv := valid_iff.1 hp.1.2.1
          have hl := hp.1.2.2
          have hg := hp.2.2.2
          unfold lvl at hg
          unfold lexLt at hl
          by_cases e0 : a0 = o0
          · rw [if_pos e0] at hg
            by_cases e1 : a1 = o1
            · rw [if_pos e1] at hg; omega
            · rw [if_neg e1] at hg; omega
          · omega
        by_cases hz : validB (a0 + 1) 0 0 = true
        · rw [if_pos hz]
          refine .inr (.inr ⟨_, _, _, rfl, permB_iff.2 ⟨⟨h.1, hz, ?_⟩, h.2.1, h.2.2, ?_⟩, fun o0 o1 o2 ho => ?_⟩)
          · unfold lexLt; omega
          · unfold lvl; rw [if_neg (by omega)]; omega
          · have := hmore _ _ _ ho
            have hv := valid_iff.1 (permB_iff.1 ho).1.2.1
            unfold lexLt; omega
        · rw [if_neg hz]
          refine .inr (.inl ⟨rfl, fun o0 o1 o2 => ?_⟩)
          rw [valid_iff] at hz
          refine Bool.eq_false_iff.2 fun ho => ?_
          have := hmore _ _ _ ho
          have hv := valid_iff.1 (permB_iff.1 ho).1.2.1
          omega
  · rw [if_neg h]; exact .inl rfl
theorem VersionLeast (a0 a1 a2 o0 o1 o2 l : Int) : modcertlaw24_VersionLeast.f 20 a0 a1 a2 o0 o1 o2 l = some true := by
  unfold modcertlaw24_VersionLeast.f modcertlaw24_awake.f
  rw [Option.bind_some, if_pos rfl, next_some 18, Option.bind_some]
  rcases next_spec a0 a1 a2 l with h | ⟨h, hn⟩ | ⟨n0, n1, n2, h, hp, hn⟩
  · rw [h]; rfl
  · rw [h]
    rw [if_neg (show ¬ ((0, 0, 0, 2) : Int × Int × Int × Int).2.2.2 = 0 by decide), if_pos (by decide), if_neg (show ¬ ((0, 0, 0, 2) : Int × Int × Int × Int).2.2.2 = 1 by decide), if_pos rfl, permits_some, hn]
    rfl
  · rw [h]
    have hi := permB_iff.1 hp
    have hc : claimB a0 a1 a2 n0 n1 n2 = true := by unfold permB at hp; simp only [Bool.and_eq_true] at hp; exact hp.1
    show (if (0 : Int) = 0 then (version_Permits.f 20 a0 a1 a2 n0 n1 n2 l).bind _ else _) = _
    rw [if_pos rfl, permits_some, Option.bind_some, if_pos hp, permits_some, Option.bind_some, claims_some, Option.bind_some, if_pos hc]
    have hend : (if ((lvl a0 a1 n0 n1, 0) : Int × Int).2 = 0 then (some (decide (((lvl a0 a1 n0 n1, 0) : Int × Int).1 ≥ l)) : Option Bool) else some false) = some true := by
      rw [if_pos rfl, decide_eq_true (show ((lvl a0 a1 n0 n1, (0 : Int))).1 ≥ l from hi.2.2.2)]
    by_cases ho : permB a0 a1 a2 o0 o1 o2 l = true
    · rw [if_pos ho, show version_Compare.f o0 o1 o2 n0 n1 n2 = some (cmpV o0 o1 o2 n0 n1 n2) from rfl, Option.bind_some, if_neg (fun hlt => hn _ _ _ ho ((cmpV_neg _ _ _ _ _ _).1 hlt))]
      exact hend
    · rw [if_neg ho]
      exact hend
end Go.Proofs.YtdccbpeajpnkjaaDoor.Pr
