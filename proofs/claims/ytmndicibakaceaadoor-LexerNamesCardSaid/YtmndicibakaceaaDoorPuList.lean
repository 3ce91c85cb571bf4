/- What lexer.next and lexer.blanks answer, told of the list of the bytes from an offset on. -/
import Derived.Test.YtmndicibakaceaaDoorPuBase
namespace Go.Proofs.YtmndicibakaceaaDoor.Pr
open Go.RowKit Go.Proofs.YtmndicibakaceaaDoorW.PrintWords Go.Proofs.YtmndicibakaceaaDoorW.PrintLast Go.Proofs.YtmndicibakaceaaDoorW.PrintMore
def ofL (l : List UInt8) : ByteArray := ⟨l.toArray⟩
theorem ofL_list (l : List UInt8) : (ofL l).data.toList = l := by simp [ofL]
theorem ofL_size (l : List UInt8) : (ofL l).size = l.length := by simp [ofL, ByteArray.size]
theorem ofL_of (s : ByteArray) : ofL s.data.toList = s := by simp [ofL]
theorem ofL_eq {l : List UInt8} {s : ByteArray} (h : s.data.toList = l) : s = ofL l := by rw [← h, ofL_of]
theorem ext_ofL (s : ByteArray) (i e : Nat) : s.extract i e = ofL ((s.data.toList.drop i).take (e - i)) := by
  rw [Lib.extract_eq]; rfl
theorem drop_cons {s : ByteArray} {i : Nat} (h : i < s.size) : ∃ c l, s.data.toList.drop i = c :: l ∧ bt s (i : Int) = (c.toNat : Int) ∧ s.data.toList.drop (i + 1) = l :=
  ⟨_, _, List.drop_eq_getElem_cons h, bt_cast s i h, rfl⟩
/-- the head's bytes that satisfy p. -/
def runL (p : Int → Bool) (l : List UInt8) : List UInt8 := l.takeWhile fun c => p (c.toNat : Int)
theorem runL_cons_pos {p : Int → Bool} {c : UInt8} {l : List UInt8} (h : p (c.toNat : Int) = true) : runL p (c :: l) = c :: runL p l := by
  simp [runL, h]
theorem runL_cons_neg {p : Int → Bool} {c : UInt8} {l : List UInt8} (h : p (c.toNat : Int) = false) : runL p (c :: l) = [] := by
  simp [runL, h]
theorem runL_take (p : Int → Bool) (l : List UInt8) : l.take (runL p l).length = runL p l := by
  induction l with
  | nil => rfl
  | cons c l ih =>
    cases h : p (c.toNat : Int)
    · rw [runL_cons_neg h]; rfl
    · rw [runL_cons_pos h, List.length_cons, List.take_succ_cons, ih]
theorem runL_le (p : Int → Bool) (l : List UInt8) : (runL p l).length ≤ l.length := by
  have := congrArg List.length (runL_take p l)
  rw [List.length_take] at this; omega
theorem spanTo_list (p : Int → Bool) (s : ByteArray) : ∀ (n i : Nat), i + n = s.size → spanTo p s n (i : Int) = (i + (runL p (s.data.toList.drop i)).length : Nat)
  | 0, i, h => by
    rw [List.drop_eq_nil_of_le (show s.data.toList.length ≤ i by show s.size ≤ i; omega)]; rfl
  | n + 1, i, h => by
    obtain ⟨c, l, hd, hb, hl⟩ := drop_cons (s := s) (i := i) (by omega)
    have ih := spanTo_list p s n (i + 1) (by omega)
    rw [hl] at ih
    unfold spanTo
    rw [hb, hd]
    cases hp : p (c.toNat : Int)
    · rw [if_neg (by simp), runL_cons_neg hp]; simp
    · rw [if_pos rfl, runL_cons_pos hp, show (i : Int) + 1 = ((i + 1 : Nat) : Int) by omega, ih, List.length_cons]
      congr 1; omega
theorem runEnd_list (p : Int → Bool) (s : ByteArray) (i : Nat) (h : i ≤ s.size) : runEnd p s i = i + (runL p (s.data.toList.drop i)).length := by
  have h1 := runEnd_cast p s i
  rw [spanTo_list p s _ i (by omega)] at h1
  omega
theorem ext_run (p : Int → Bool) (s : ByteArray) (i : Nat) (h : i ≤ s.size) : s.extract i (runEnd p s i) = ofL (runL p (s.data.toList.drop i)) := by
  rw [ext_ofL, runEnd_list p s i h, Nat.add_sub_cancel_left, runL_take]
/-- the character at the head of a literal's rest, and how many bytes it takes. -/
def charL : List UInt8 → Option (Int × Nat)
  | [] => none
  | c :: l1 =>
    if c.toNat = 34 ∨ c.toNat < 32 then none
    else if c.toNat ≠ 92 then some (c.toNat, 1)
    else match l1 with
      | [] => none
      | d :: l2 =>
        if d.toNat = 34 ∨ d.toNat = 92 then some (d.toNat, 2)
        else if d.toNat = 110 then some (10, 2)
        else match l2 with
          | e :: f :: _ => if d.toNat = 120 ∧ 0 ≤ hexV e.toNat ∧ 0 ≤ hexV f.toNat then some (16 * hexV e.toNat + hexV f.toNat, 4) else none
          | _ => none
theorem charL_cons (c : UInt8) (l1 : List UInt8) : charL (c :: l1) = if c.toNat = 34 ∨ c.toNat < 32 then none
    else if c.toNat ≠ 92 then some ((c.toNat : Int), 1)
    else match l1 with
      | [] => none
      | d :: l2 =>
        if d.toNat = 34 ∨ d.toNat = 92 then some ((d.toNat : Int), 2)
        else if d.toNat = 110 then some (10, 2)
        else match l2 with
          | e :: f :: _ => if d.toNat = 120 ∧ 0 ≤ hexV e.toNat ∧ 0 ≤ hexV f.toNat then some (16 * hexV e.toNat + hexV f.toNat, 4) else none
          | _ => none := rfl
/-- the bytes of a literal behind its first quote, and how many bytes it takes. -/
def litL : Nat → List UInt8 → List Int → Option (List Int × Nat)
  | 0, _, _ => none
  | n + 1, l, acc => if l.head? = some 34 then some (acc, 1) else (charL l).bind fun x => (litL n (l.drop x.2) (acc ++ [x.1])).map fun y => (y.1, y.2 + x.2)
theorem charL_len {l : List UInt8} {v : Int} {w : Nat} (h : charL l = some (v, w)) : 1 ≤ w ∧ w ≤ l.length := by
  match l, h with
  | [], h => cases h
  | c :: l1, h =>
    rw [charL_cons] at h
    split at h
    · cases h
    · split at h
      · injection h with h; injection h with _ h; subst h; simp
      · match l1, h with
        | [], h => cases h
        | d :: l2, h =>
          simp only at h
          split at h
          · injection h with h; injection h with _ h; subst h; simp
          · split at h
            · injection h with h; injection h with _ h; subst h; simp
            · match l2, h with
              | [], h => cases h
              | [_], h => cases h
              | e :: f :: l3, h =>
                simp only at h
                split at h
                · injection h with h; injection h with _ h; subst h; simp
                · cases h
theorem litLoop_step (s : ByteArray) (n i : Nat) (acc : List Int) (hn : i + (n + 1) = s.size) :
    litLoop s (n + 1) i acc = if (s.data.toList.drop i).head? = some 34 then some (acc, i + 1) else (charL (s.data.toList.drop i)).bind fun x => litLoop s (n + 1 - x.2) (i + x.2) (acc ++ [x.1]) := by
  obtain ⟨c, l, hd, hb, hl⟩ := drop_cons (s := s) (i := i) (by omega)
  rw [hd, charL_cons]
  conv => lhs; unfold litLoop
  rw [hb]
  have hh : ((c :: l).head? = some 34) ↔ c.toNat = 34 := by
    simp only [List.head?_cons, Option.some.injEq]
    exact ⟨fun h => by rw [h]; rfl, fun h => UInt8.toNat_inj.1 h⟩
  by_cases h1 : c.toNat = 34
  · rw [if_pos (show (c.toNat : Int) = 34 by omega), if_pos (hh.2 h1)]
  · rw [if_neg (show ¬ (c.toNat : Int) = 34 by omega), if_neg (fun h => h1 (hh.1 h))]
    by_cases h2 : c.toNat < 32
    · rw [if_pos (show (c.toNat : Int) < 32 by omega), if_pos (show c.toNat = 34 ∨ c.toNat < 32 from .inr h2)]; rfl
    · rw [if_neg (show ¬ (c.toNat : Int) < 32 by omega), if_neg (show ¬ (c.toNat = 34 ∨ c.toNat < 32) by omega)]
      by_cases h3 : c.toNat ≠ 92
      · rw [if_pos (show (c.toNat : Int) ≠ 92 by omega), if_pos h3, Option.bind_some]; rfl
      · rw [if_neg (show ¬ (c.toNat : Int) ≠ 92 by omega), if_neg h3]
        by_cases h4 : i + 1 < s.size
        · obtain ⟨d, l2, hd2, hb2, hl2⟩ := drop_cons (s := s) (i := i + 1) h4
          rw [hl] at hd2
          subst hd2
          rw [if_pos h4]
          simp only [hb2]
          by_cases h5 : d.toNat = 34 ∨ d.toNat = 92
          · rw [if_pos (show (d.toNat : Int) = 34 ∨ (d.toNat : Int) = 92 by omega), if_pos h5, Option.bind_some]; rfl
          · rw [if_neg (show ¬ ((d.toNat : Int) = 34 ∨ (d.toNat : Int) = 92) by omega), if_neg h5]
            by_cases h6 : d.toNat = 110
            · rw [if_pos (show (d.toNat : Int) = 110 by omega), if_pos h6, Option.bind_some]; rfl
            · rw [if_neg (show ¬ (d.toNat : Int) = 110 by omega), if_neg h6]
              by_cases h7 : i + 3 < s.size
              · obtain ⟨e, l3, hd3, hb3, hl3⟩ := drop_cons (s := s) (i := i + 2) (by omega)
                obtain ⟨f, l4, hd4, hb4, hl4⟩ := drop_cons (s := s) (i := i + 3) h7
                rw [hl2] at hd3
                rw [hl3] at hd4
                subst hd3 hd4
                simp only [hb3, hb4]
                by_cases h8 : d.toNat = 120 ∧ 0 ≤ hexV e.toNat ∧ 0 ≤ hexV f.toNat
                · rw [if_pos ⟨by omega, h7, h8.2.1, h8.2.2⟩, if_pos h8, Option.bind_some]
                  rw [show n + 1 - 4 = n - 3 by omega]
                · rw [if_neg (fun h => h8 ⟨by omega, h.2.2.1, h.2.2.2⟩), if_neg h8]; rfl
              · rw [if_neg (fun h => h7 h.2.1)]
                have hlen : l2.length < 2 := by
                  have h9 := congrArg List.length hl2
                  rw [List.length_drop] at h9
                  have h10 : s.data.toList.length = s.size := rfl
                  omega
                match l2, hlen with
                | [], _ => rfl
                | [_], _ => rfl
        · rw [if_neg h4]
          have : l = [] := by
            rw [← hl]; exact List.drop_eq_nil_of_le (by show s.size ≤ i + 1; omega)
          subst this; rfl
theorem litL_list (s : ByteArray) : ∀ (k n i : Nat) (acc : List Int), n ≤ k → i + n = s.size → litLoop s n i acc = (litL k (s.data.toList.drop i) acc).map fun x => (x.1, i + x.2)
  | k, 0, i, acc, _, hn => by
    rw [List.drop_eq_nil_of_le (show s.data.toList.length ≤ i by show s.size ≤ i; omega)]
    cases k with
    | zero => unfold litLoop litL; rfl
    | succ k => unfold litLoop litL; rfl
  | 0, n + 1, i, acc, hk, _ => by omega
  | k + 1, n + 1, i, acc, hk, hn => by
    rw [litLoop_step s n i acc hn]
    show _ = Option.map _ (if (s.data.toList.drop i).head? = some 34 then some (acc, 1) else (charL (s.data.toList.drop i)).bind fun x => (litL k ((s.data.toList.drop i).drop x.2) (acc ++ [x.1])).map fun y => (y.1, y.2 + x.2))
    split
    · rfl
    · cases hc : charL (s.data.toList.drop i) with
      | none => rfl
      | some x =>
        obtain ⟨v, w⟩ := x
        have hw := charL_len hc
        rw [List.length_drop] at hw
        have h10 : s.data.toList.length = s.size := rfl
        simp only [Option.bind_some]
        rw [litL_list s k (n + 1 - w) (i + w) _ (by omega) (by omega), List.drop_drop, Option.map_map]
        congr 1; funext y; simp; omega
/-- the token at the head of a list: kind, text, how many bytes, the error. -/
def nextL : List UInt8 → Int × ByteArray × Nat × Int
  | [] => (6, ofL [], 0, 3)
  | c :: l =>
    if isSmall c.toNat || isCapital c.toNat then
      if kwB (ofL (runL isWord (c :: l))) then (5, ofL (runL isWord (c :: l)), (runL isWord (c :: l)).length, 0)
      else if isNameB (ofL (runL isWord (c :: l))) then (1, ofL (runL isWord (c :: l)), (runL isWord (c :: l)).length, 0)
      else if isTypeB (ofL (runL isWord (c :: l))) then (2, ofL (runL isWord (c :: l)), (runL isWord (c :: l)).length, 0)
      else (0, ofL (runL isWord (c :: l)), 0, 4)
    else if isDigit c.toNat then
      if 19 < (runL isDigit (c :: l)).length ∨ (1 < (runL isDigit (c :: l)).length ∧ c.toNat = 48) ∨ (((c :: l).drop (runL isDigit (c :: l)).length).head?.any fun d => isWord d.toNat) = true then (3, ofL (runL isDigit (c :: l)), 0, 3)
      else (3, ofL (runL isDigit (c :: l)), (runL isDigit (c :: l)).length, 0)
    else if c.toNat = 34 then
      match litL l.length l [] with
      | some (t, n) => (4, strOfNums t, n + 1, 0)
      | none => (0, ofL [], 0, 3)
    else if (symbolOf (ofL (c :: l))).size = 0 then (6, symbolOf (ofL (c :: l)), 0, 3)
    else (6, symbolOf (ofL (c :: l)), (symbolOf (ofL (c :: l))).size, 0)
theorem nextL_cons (c : UInt8) (l : List UInt8) : nextL (c :: l) = ((
    if isSmall c.toNat || isCapital c.toNat then
      if kwB (ofL (runL isWord (c :: l))) then (5, ofL (runL isWord (c :: l)), (runL isWord (c :: l)).length, 0)
      else if isNameB (ofL (runL isWord (c :: l))) then (1, ofL (runL isWord (c :: l)), (runL isWord (c :: l)).length, 0)
      else if isTypeB (ofL (runL isWord (c :: l))) then (2, ofL (runL isWord (c :: l)), (runL isWord (c :: l)).length, 0)
      else (0, ofL (runL isWord (c :: l)), 0, 4)
    else if isDigit c.toNat then
      if 19 < (runL isDigit (c :: l)).length ∨ (1 < (runL isDigit (c :: l)).length ∧ c.toNat = 48) ∨ (((c :: l).drop (runL isDigit (c :: l)).length).head?.any fun d => isWord d.toNat) = true then (3, ofL (runL isDigit (c :: l)), 0, 3)
      else (3, ofL (runL isDigit (c :: l)), (runL isDigit (c :: l)).length, 0)
    else if c.toNat = 34 then
      match litL l.length l [] with
      | some (t, n) => (4, strOfNums t, n + 1, 0)
      | none => (0, ofL [], 0, 3)
    else if (symbolOf (ofL (c :: l))).size = 0 then (6, symbolOf (ofL (c :: l)), 0, 3)
    else (6, symbolOf (ofL (c :: l)), (symbolOf (ofL (c :: l))).size, 0) : Int × ByteArray × Nat × Int)) := rfl
theorem head_at (s : ByteArray) (j : Nat) (h : j ≤ s.size) : (j < s.size ∧ isWord (bt s j) = true) ↔ ((s.data.toList.drop j).head?.any fun d => isWord d.toNat) = true := by
  by_cases hj : j < s.size
  · obtain ⟨c, l, hd, hb, _⟩ := drop_cons hj
    rw [hd, hb]; simp [hj]
  · rw [List.drop_eq_nil_of_le (by show s.size ≤ j; omega)]; simp [hj]
theorem next_list (s : ByteArray) (i : Nat) (h : i < s.size) : nextTok s i = (⟨(nextL (s.data.toList.drop i)).1, (nextL (s.data.toList.drop i)).2.1, i⟩, ((i + (nextL (s.data.toList.drop i)).2.2.1 : Nat) : Int), (nextL (s.data.toList.drop i)).2.2.2) := by
  obtain ⟨c, l, hd, hb, hl⟩ := drop_cons h
  unfold nextTok
  rw [ext_run isWord s i (by omega), ext_run isDigit s i (by omega), runEnd_list isWord s i (by omega), runEnd_list isDigit s i (by omega), hb]
  have hx : s.extract i s.size = ofL (s.data.toList.drop i) := by
    rw [ext_ofL, List.take_of_length_le]
    rw [List.length_drop]; exact Nat.le_refl _
  rw [hx]
  have hrl : (runL isDigit (s.data.toList.drop i)).length ≤ s.size - i := by
    have := runL_le isDigit (s.data.toList.drop i)
    rw [List.length_drop] at this; exact this
  have hh := head_at s (i + (runL isDigit (s.data.toList.drop i)).length) (by omega)
  rw [← List.drop_drop] at hh
  have hlit := litL_list s (s.size - (i + 1)) (s.size - (i + 1)) (i + 1) [] (Nat.le_refl _) (by omega)
  have hll : l.length = s.size - (i + 1) := by rw [← hl, List.length_drop]; rfl
  rw [hl] at hlit
  rw [hlit, ← hll]
  rw [hd] at hh ⊢
  generalize hW : runL isWord (c :: l) = W at *
  generalize hD : runL isDigit (c :: l) = D at *
  simp only [nextL, hW, hD]
  by_cases h1 : (isSmall (c.toNat : Int) || isCapital (c.toNat : Int)) = true
  · rw [if_pos h1, if_pos h1]
    split
    · simp
    · split
      · simp
      · split
        · simp
        · simp
  · rw [if_neg h1, if_neg h1]
    by_cases h2 : isDigit (c.toNat : Int) = true
    · rw [if_pos h2, if_pos h2]
      have e1 : i + D.length - i = D.length := by omega
      rw [e1]
      by_cases h3 : 19 < D.length ∨ (1 < D.length ∧ c.toNat = 48) ∨ ((List.drop D.length (c :: l)).head?.any fun d => isWord d.toNat) = true
      · rw [if_pos h3, if_pos (by
          rcases h3 with h | h | h
          · exact .inl h
          · exact .inr (.inl ⟨h.1, by omega⟩)
          · exact .inr (.inr (hh.2 h)))]
        simp
      · rw [if_neg h3, if_neg (by
          rintro (h | h | h)
          · exact h3 (.inl h)
          · exact h3 (.inr (.inl ⟨h.1, by omega⟩))
          · exact h3 (.inr (.inr (hh.1 h))))]
    · rw [if_neg h2, if_neg h2]
      by_cases h4 : c.toNat = 34
      · rw [if_pos (by omega), if_pos h4]
        cases litL l.length l [] with
        | none => simp [ofL]
        | some x => obtain ⟨t, n⟩ := x; simp; omega
      · rw [if_neg (by omega), if_neg h4]
        split
        · simp
        · simp
end Go.Proofs.YtmndicibakaceaaDoor.Pr
