/- What lexer.blanks answers, without fuel: the offset behind blanks and comments. -/
import Derived.Lib.Bytes2
import Derived.Lib.IndexBytes
import Derived.Test.YtmndicibakaceaaDoorExtL
import Derived.Test.YtmndicibakaceaaDoorPr3
namespace Go.Proofs.YtmndicibakaceaaDoor.Pr
open Go.RowKit Go.Proofs.YtmndicibakaceaaDoorW.PrintWords Go.Proofs.YtmndicibakaceaaDoorW.PrintLast Go.Proofs.YtmndicibakaceaaDoorW.PrintMore
/-- how many bytes of blanks and comments stand at the head; in a comment, if told so. -/
def skipN : Bool → List UInt8 → Nat
  | _, [] => 0
  | true, c :: l => if c = 10 then 1 + skipN false l else 1 + skipN true l
  | false, c :: l => if c = 47 ∧ l.head? = some 47 then 1 + skipN true l else if c = 32 ∨ c = 9 ∨ c = 10 ∨ c = 13 then 1 + skipN false l else 0
theorem skipN_t (c : UInt8) (l : List UInt8) : skipN true (c :: l) = if c = 10 then 1 + skipN false l else 1 + skipN true l := by rw [skipN]
theorem skipN_f (c : UInt8) (l : List UInt8) : skipN false (c :: l) = if c = 47 ∧ l.head? = some 47 then 1 + skipN true l else if c = 32 ∨ c = 9 ∨ c = 10 ∨ c = 13 then 1 + skipN false l else 0 := by rw [skipN]
def blanksTo (s : ByteArray) (i : Nat) : Nat := i + skipN false (s.data.toList.drop i)
theorem skipN_le : ∀ (b : Bool) (l : List UInt8), skipN b l ≤ l.length
  | _, [] => Nat.le_refl _
  | true, c :: l => by
    have := skipN_le false l; have := skipN_le true l
    unfold skipN; simp only [List.length_cons]; split <;> omega
  | false, c :: l => by
    have := skipN_le false l; have := skipN_le true l
    unfold skipN; simp only [List.length_cons]; split
    · omega
    · split <;> omega
theorem blanksTo_ge (s : ByteArray) (i : Nat) : i ≤ blanksTo s i := Nat.le_add_right _ _
theorem blanksTo_le (s : ByteArray) (i : Nat) (h : i ≤ s.size) : blanksTo s i ≤ s.size := by
  have := skipN_le false (s.data.toList.drop i)
  rw [List.length_drop] at this
  have h2 : s.data.toList.length = s.size := rfl
  unfold blanksTo; omega
theorem skip_line : ∀ (l : List UInt8) (o : Nat), Lib.indexByte l 10 = o → skipN true l = o + skipN false (l.drop o)
  | [], o, h => by simp [Lib.indexByte] at h
  | c :: l, o, h => by
    unfold Lib.indexByte at h
    by_cases hc : c = 10
    · subst hc
      rw [if_pos (by decide)] at h
      obtain rfl : o = 0 := by omega
      simp [skipN]
    · rw [if_neg (by simpa using hc)] at h
      split at h
      · omega
      · have hge := Lib.indexByte_ge l 10
        obtain ⟨p, rfl⟩ : ∃ p, o = p + 1 := ⟨o - 1, by rename_i hm; simp at hm; omega⟩
        have ih := skip_line l p (by omega)
        rw [show skipN true (c :: l) = 1 + skipN true l by simp [skipN, hc], ih]
        simp; omega
theorem skip_all : ∀ (l : List UInt8), Lib.indexByte l 10 = -1 → skipN true l = l.length
  | [], _ => rfl
  | c :: l, h => by
    unfold Lib.indexByte at h
    by_cases hc : c = 10
    · subst hc; simp at h
    · rw [if_neg (by simpa using hc)] at h
      have hge := Lib.indexByte_ge l 10
      split at h
      · rename_i hm
        rw [show skipN true (c :: l) = 1 + skipN true l by simp [skipN, hc], skip_all l (by simpa using hm)]; simp; omega
      · omega
set_option maxRecDepth 100000 in
theorem blank_mem (c : UInt8) : (Lib.indexByte [32, 9, 10, 13] c ≥ 0) ↔ (c = 32 ∨ c = 9 ∨ c = 10 ∨ c = 13) := by
  revert c
  have : ∀ n : Fin 256, (Lib.indexByte [32, 9, 10, 13] (UInt8.ofNat n.val) ≥ 0) ↔ (UInt8.ofNat n.val = 32 ∨ UInt8.ofNat n.val = 9 ∨ UInt8.ofNat n.val = 10 ∨ UInt8.ofNat n.val = 13) := by decide
  intro c
  have h := this ⟨c.toNat, c.toNat_lt⟩
  simpa using h
theorem slashes (c : UInt8) (l : List UInt8) : Lib.hasPrefix (c :: l) [47, 47] = true ↔ (c = 47 ∧ l.head? = some 47) := by
  cases l with
  | nil => simp [Lib.hasPrefix, List.isPrefixOf]
  | cons d l =>
    simp [Lib.hasPrefix, List.isPrefixOf]
    constructor
    · rintro ⟨h, k⟩; exact ⟨h.symm, k.symm⟩
    · rintro ⟨h, k⟩; exact ⟨h.symm, k.symm⟩
theorem HasPrefix_some (a b : ByteArray) : strings_HasPrefix.f a b = some (Lib.hasPrefix a.data.toList b.data.toList) := by
  unfold strings_HasPrefix.f stringslite_HasPrefix.f
  rw [← Lib.hasPrefix_raw]
  by_cases h : b.size ≤ a.size
  · simp [h]
    first | rfl | (rw [if_pos (by omega)]; rfl) | skip
  · simp [h]
theorem blanks_l0 (s : ByteArray) (hs : s.size ≤ 1000000000) : ∀ (k i : Nat), i ≤ s.size → s.size - i ≤ k → lexer_blanks.l0 (k + 1) s (i : Int) = some ((blanksTo s i : Nat) : Int) := by
  intro k
  induction k with
  | zero =>
    intro i hi hk
    unfold lexer_blanks.l0 blanksTo
    rw [if_neg (by omega), List.drop_eq_nil_of_le (by show s.size ≤ i; omega)]; simp [skipN]
  | succ k ih =>
    intro i hi hk
    unfold lexer_blanks.l0
    by_cases h : i < s.size
    · rw [if_pos (by omega), if_pos (by omega)]
      have hl : s.data.toList.drop i = (s.data.toList[i]'h) :: s.data.toList.drop (i + 1) := (List.drop_eq_getElem_cons h)
      have hbt := bt_cast s i h
      have hE : (s.extract ((i : Int)).toNat s.size).data.toList = s.data.toList.drop i := Lib.extract_to_end s i
      generalize hc : (s.data.toList[i]'h) = c at *
      have hcc : (bt s (i : Int)).toNat.toUInt8 = c := by rw [hbt]; simp
      simp only [strings_IndexByte.f, Option.bind_some, hcc]
      by_cases hb : c = 32 ∨ c = 9 ∨ c = 10 ∨ c = 13
      · rw [if_pos (show Lib.indexByte [32, 9, 10, 13] c ≥ 0 from (blank_mem c).2 hb)]
        rw [show wrap64 ((i : Int) + 1) = ((i + 1 : Nat) : Int) by unfold wrap64; omega]
        rw [ih (i + 1) (by omega) (by omega)]
        congr 2
        unfold blanksTo
        rw [hl]
        have h47 : ¬ (c = 47 ∧ (s.data.toList.drop (i + 1)).head? = some 47) := by
          rintro ⟨rfl, _⟩; revert hb; decide
        rw [show skipN false (c :: s.data.toList.drop (i + 1)) = 1 + skipN false (s.data.toList.drop (i + 1)) by
          rw [skipN_f, if_neg h47, if_pos hb]]
        omega
      · rw [if_neg (show ¬ Lib.indexByte [32, 9, 10, 13] c ≥ 0 from fun h => hb ((blank_mem c).1 h)), if_pos (by omega)]
        rw [HasPrefix_some, hE, hl]
        simp only [Option.bind_some]
        by_cases hp : c = 47 ∧ (s.data.toList.drop (i + 1)).head? = some 47
        · rw [if_pos ((slashes _ _).2 hp), ← hl]
          have hsk : skipN false (s.data.toList.drop i) = skipN true (s.data.toList.drop i) := by
            rw [hl, skipN_f, skipN_t]
            rw [if_pos hp, if_neg (by rw [hp.1]; decide)]
          have e10 : (10 : Int).toNat.toUInt8 = 10 := rfl
          rw [e10]
          rcases Lib.indexByte_piece s i s.size 10 with hn | ⟨o, ho, hlt⟩
          · rw [show (s.extract i s.size).data.toList = s.data.toList.drop i from Lib.extract_to_end s i] at hn
            rw [hn, if_neg (by decide), ih s.size (Nat.le_refl _) (by omega)]
            unfold blanksTo
            rw [hsk, skip_all _ hn, List.drop_eq_nil_of_le (show s.data.toList.length ≤ s.size from Nat.le_refl _), List.length_drop]
            have : s.data.toList.length = s.size := rfl
            simp [skipN]; omega
          · rw [show (s.extract i s.size).data.toList = s.data.toList.drop i from Lib.extract_to_end s i] at ho
            have h0 : o ≠ 0 := by
              rintro rfl
              rw [hl, hp.1] at ho
              unfold Lib.indexByte at ho
              rw [if_neg (by decide)] at ho
              have := Lib.indexByte_ge (List.drop (i + 1) s.data.toList) 10
              split at ho
              · omega
              · rename_i hm; simp at hm; omega
            rw [ho, if_pos (by omega), show wrap64 ((i : Int) + (o : Int)) = ((i + o : Nat) : Int) by unfold wrap64; omega]
            rw [ih (i + o) (by omega) (by omega)]
            unfold blanksTo
            rw [hsk, skip_line _ _ ho, List.drop_drop]
            congr 2; omega
        · rw [if_neg (fun h => hp ((slashes _ _).1 h))]
          unfold blanksTo
          rw [hl]
          rw [show skipN false (c :: s.data.toList.drop (i + 1)) = 0 by
            rw [skipN_f, if_neg hp, if_neg hb]]
          simp
    · rw [if_neg (by omega)]
      unfold blanksTo
      rw [List.drop_eq_nil_of_le (by show s.size ≤ i; omega)]; simp [skipN]
theorem blanks_some (s : ByteArray) (hs : s.size ≤ 1000000000) (i : Nat) (h : i ≤ s.size) : lexer_blanks.f (s.size + 1) s (i : Int) = some ((blanksTo s i : Nat) : Int) := blanks_l0 s hs s.size i h (by omega)
end Go.Proofs.YtmndicibakaceaaDoor.Pr
