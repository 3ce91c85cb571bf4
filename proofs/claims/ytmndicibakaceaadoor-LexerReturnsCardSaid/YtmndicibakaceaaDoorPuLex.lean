/- Plain facts on what the printed functions of layer 3 answer: the last place of a byte, positions. | What lexer.next and lexer.blanks answer, told of the list of the bytes from an offset on. | What lexer.Lex answers, told of lists; what stays as it is where the list is cut behind a token. -/
import Derived.Test.YtmndicibakaceaaDoorExtE
namespace Go.Proofs.YtmndicibakaceaaDoor.Pr
section
open Go.RowKit Go.Proofs.YtmndicibakaceaaDoorW.PrintWords Go.Proofs.YtmndicibakaceaaDoorW.PrintLast Go.Proofs.YtmndicibakaceaaDoorW.PrintMore
theorem wr64 {n : Int} (h : -1000000000000 ≤ n ∧ n ≤ 1000000000000) : wrap64 n = n := by unfold wrap64; omega
/-- the last place below n at which c stands, or -1. -/
def lastN (s : ByteArray) (c : Int) : Nat → Int
  | 0 => -1
  | n + 1 => if bt s n = c then n else lastN s c n
theorem lastN_range (s : ByteArray) (c : Int) : ∀ n : Nat, -1 ≤ lastN s c n ∧ lastN s c n < n
  | 0 => by unfold lastN; omega
  | n + 1 => by
    have := lastN_range s c n
    unfold lastN; split <;> omega
theorem last_l0 (s : ByteArray) (c : Int) (hs : s.size ≤ 1000000000) : ∀ n : Nat, n ≤ s.size → bytealg_LastIndexByteString.l0 (n + 1) s c ((n : Int) - 1) = some (lastN s c n)
  | 0, _ => by unfold bytealg_LastIndexByteString.l0 lastN; rw [if_neg (by omega)]
  | n + 1, h => by
    have ih := last_l0 s c hs n (by omega)
    unfold bytealg_LastIndexByteString.l0 lastN
    rw [if_pos (by omega), if_pos (by omega), if_pos (by omega), show ((n + 1 : Nat) : Int) - 1 = (n : Int) by omega]
    split
    · rfl
    · rw [show wrap64 ((n : Int) - 1) = (n : Int) - 1 by unfold wrap64; omega]; exact ih
theorem last_some (s : ByteArray) (c : Int) (hs : s.size ≤ 1000000000) : strings_LastIndexByte.f (s.size + 1) s c = some (lastN s c s.size) := by
  unfold strings_LastIndexByte.f bytealg_LastIndexByteString.f
  rw [show wrap64 ((s.size : Int) - 1) = (s.size : Int) - 1 by unfold wrap64; omega, last_l0 s c hs _ (Nat.le_refl _)]; rfl
end
section
open Go.RowKit Go.Proofs.YtmndicibakaceaaDoorW.PrintWords Go.Proofs.YtmndicibakaceaaDoorW.PrintLast Go.Proofs.YtmndicibakaceaaDoorW.PrintMore
def ofL (l : List UInt8) : ByteArray := ⟨l.toArray⟩
theorem ofL_list (l : List UInt8) : (ofL l).data.toList = l := by simp [ofL]
theorem ofL_size (l : List UInt8) : (ofL l).size = l.length := by simp [ofL, ByteArray.size]
theorem ofL_of (s : ByteArray) : ofL s.data.toList = s := by simp [ofL]
theorem ofL_eq {l : List UInt8} {s : ByteArray} (h : s.data.toList = l) : s = ofL l := by rw [← h, ofL_of]
theorem ext_ofL (s : ByteArray) (i e : Nat) : s.extract i e = ofL ((s.data.toList.drop i).take (e - i)) := by
  rw [Lib.extract_eq]; rfl
theorem drop_cons {s : ByteArray} {i : Nat} (h : i < s.size) : ∃ c l, s.data.toList.drop i = c :: l ∧ bt s (i : Int) = (c.toNat : Int) ∧ s.data.toList.drop (i + 1) = l :=
  ⟨_, _, List.drop_eq_getElem_cons h, bt_cast s i h, rfl⟩
/-- the head's bytes that satisfy p. -/
def runL (p : Int → Bool) (l : List UInt8) : List UInt8 := l.takeWhile fun c => p (c.toNat : Int)
theorem runL_cons_pos {p : Int → Bool} {c : UInt8} {l : List UInt8} (h : p (c.toNat : Int) = true) : runL p (c :: l) = c :: runL p l := by
  simp [runL, h]
theorem runL_cons_neg {p : Int → Bool} {c : UInt8} {l : List UInt8} (h : p (c.toNat : Int) = false) : runL p (c :: l) = [] := by
  simp [runL, h]
theorem runL_take (p : Int → Bool) (l : List UInt8) : l.take (runL p l).length = runL p l := by
  induction l with
  | nil => rfl
  | cons c l ih =>
    cases h : p (c.toNat : Int)
    · rw [runL_cons_neg h]; rfl
    · rw [runL_cons_pos h, List.length_cons, List.take_succ_cons, ih]
theorem runL_le (p : Int → Bool) (l : List UInt8) : (runL p l).length ≤ l.length := by
  have := congrArg List.length (runL_take p l)
  rw [List.length_take] at this; omega
theorem spanTo_list (p : Int → Bool) (s : ByteArray) : ∀ (n i : Nat), i + n = s.size → spanTo p s n (i : Int) = (i + (runL p (s.data.toList.drop i)).length : Nat)
  | 0, i, h => by
    rw [List.drop_eq_nil_of_le (show s.data.toList.length ≤ i by show s.size ≤ i; omega)]; rfl
  | n + 1, i, h => by
    obtain ⟨c, l, hd, hb, hl⟩ := drop_cons (s := s) (i := i) (by omega)
    have ih := spanTo_list p s n (i + 1) (by omega)
    rw [hl] at ih
    unfold spanTo
    rw [hb, hd]
    cases hp : p (c.toNat : Int)
    · rw [if_neg (by simp), runL_cons_neg hp]; simp
    · rw [if_pos rfl, runL_cons_pos hp, show (i : Int) + 1 = ((i + 1 : Nat) : Int) by omega, ih, List.length_cons]
      congr 1; omega
theorem runEnd_list (p : Int → Bool) (s : ByteArray) (i : Nat) (h : i ≤ s.size) : runEnd p s i = i + (runL p (s.data.toList.drop i)).length := by
  have h1 := runEnd_cast p s i
  rw [spanTo_list p s _ i (by omega)] at h1
  omega
theorem ext_run (p : Int → Bool) (s : ByteArray) (i : Nat) (h : i ≤ s.size) : s.extract i (runEnd p s i) = ofL (runL p (s.data.toList.drop i)) := by
  rw [ext_ofL, runEnd_list p s i h, Nat.add_sub_cancel_left, runL_take]
/-- the character at the head of a literal's rest, and how many bytes it takes. -/
def charL : List UInt8 → Option (Int × Nat)
  | [] => none
  | c :: l1 =>
    if c.toNat = 34 ∨ c.toNat < 32 then none
    else if c.toNat ≠ 92 then some (c.toNat, 1)
    else match l1 with
      | [] => none
      | d :: l2 =>
        if d.toNat = 34 ∨ d.toNat = 92 then some (d.toNat, 2)
        else if d.toNat = 110 then some (10, 2)
        else match l2 with
          | e :: f :: _ => if d.toNat = 120 ∧ 0 ≤ hexV e.toNat ∧ 0 ≤ hexV f.toNat then some (16 * hexV e.toNat + hexV f.toNat, 4) else none
          | _ => none
theorem charL_cons (c : UInt8) (l1 : List UInt8) : charL (c :: l1) = if c.toNat = 34 ∨ c.toNat < 32 then none
    else if c.toNat ≠ 92 then some ((c.toNat : Int), 1)
    else match l1 with
      | [] => none
      | d :: l2 =>
        if d.toNat = 34 ∨ d.toNat = 92 then some ((d.toNat : Int), 2)
        else if d.toNat = 110 then some (10, 2)
        else match l2 with
          | e :: f :: _ => if d.toNat = 120 ∧ 0 ≤ hexV e.toNat ∧ 0 ≤ hexV f.toNat then some (16 * hexV e.toNat + hexV f.toNat, 4) else none
          | _ => none := rfl
/-- the bytes of a literal behind its first quote, and how many bytes it takes. -/
def litL : Nat → List UInt8 → List Int → Option (List Int × Nat)
  | 0, _, _ => none
  | n + 1, l, acc => if l.head? = some 34 then some (acc, 1) else (charL l).bind fun x => (litL n (l.drop x.2) (acc ++ [x.1])).map fun y => (y.1, y.2 + x.2)
theorem charL_len {l : List UInt8} {v : Int} {w : Nat} (h : charL l = some (v, w)) : 1 ≤ w ∧ w ≤ l.length := by
  match l, h with
  | [], h => cases h
  | c :: l1, h =>
    rw [charL_cons] at h
    split at h
    · cases h
    · split at h
      · injection h with h; injection h with _ h; subst h; simp
      · match l1, h with
        | [], h => cases h
        | d :: l2, h =>
          simp only at h
          split at h
          · injection h with h; injection h with _ h; subst h; simp
          · split at h
            · injection h with h; injection h with _ h; subst h; simp
            · match l2, h with
              | [], h => cases h
              | [_], h => cases h
              | e :: f :: l3, h =>
                simp only at h
                split at h
                · injection h with h; injection h with _ h; subst h; simp
                · cases h
theorem litLoop_step (s : ByteArray) (n i : Nat) (acc : List Int) (hn : i + (n + 1) = s.size) :
    litLoop s (n + 1) i acc = if (s.data.toList.drop i).head? = some 34 then some (acc, i + 1) else (charL (s.data.toList.drop i)).bind fun x => litLoop s (n + 1 - x.2) (i + x.2) (acc ++ [x.1]) := by
  obtain ⟨c, l, hd, hb, hl⟩ := drop_cons (s := s) (i := i) (by omega)
  rw [hd, charL_cons]
  conv => lhs; unfold litLoop
  rw [hb]
  have hh : ((c :: l).head? = some 34) ↔ c.toNat = 34 := by
    simp only [List.head?_cons, Option.some.injEq]
    exact ⟨fun h => by rw [h]; rfl, fun h => UInt8.toNat_inj.1 h⟩
  by_cases h1 : c.toNat = 34
  · rw [if_pos (show (c.toNat : Int) = 34 by omega), if_pos (hh.2 h1)]
  · rw [if_neg (show ¬ (c.toNat : Int) = 34 by omega), if_neg (fun h => h1 (hh.1 h))]
    by_cases h2 : c.toNat < 32
    · rw [if_pos (show (c.toNat : Int) < 32 by omega), if_pos (show c.toNat = 34 ∨ c.toNat < 32 from .inr h2)]; rfl
    · rw [if_neg (show ¬ (c.toNat : Int) < 32 by omega), if_neg (show ¬ (c.toNat = 34 ∨ c.toNat < 32) by omega)]
      by_cases h3 : c.toNat ≠ 92
      · rw [if_pos (show (c.toNat : Int) ≠ 92 by omega), if_pos h3, Option.bind_some]; rfl
      · rw [if_neg (show ¬ (c.toNat : Int) ≠ 92 by omega), if_neg h3]
        by_cases h4 : i + 1 < s.size
        · obtain ⟨d, l2, hd2, hb2, hl2⟩ := drop_cons (s := s) (i := i + 1) h4
          rw [hl] at hd2
          subst hd2
          rw [if_pos h4]
          simp only [hb2]
          by_cases h5 : d.toNat = 34 ∨ d.toNat = 92
          · rw [if_pos (show (d.toNat : Int) = 34 ∨ (d.toNat : Int) = 92 by omega), if_pos h5, Option.bind_some]; rfl
          · rw [if_neg (show ¬ ((d.toNat : Int) = 34 ∨ (d.toNat : Int) = 92) by omega), if_neg h5]
            by_cases h6 : d.toNat = 110
            · rw [if_pos (show (d.toNat : Int) = 110 by omega), if_pos h6, Option.bind_some]; rfl
            · rw [if_neg (show ¬ (d.toNat : Int) = 110 by omega), if_neg h6]
              by_cases h7 : i + 3 < s.size
              · obtain ⟨e, l3, hd3, hb3, hl3⟩ := drop_cons (s := s) (i := i + 2) (by omega)
                obtain ⟨f, l4, hd4, hb4, hl4⟩ := drop_cons (s := s) (i := i + 3) h7
                rw [hl2] at hd3
                rw [hl3] at hd4
                subst hd3 hd4
                simp only [hb3, hb4]
                by_cases h8 : d.toNat = 120 ∧ 0 ≤ hexV e.toNat ∧ 0 ≤ hexV f.toNat
                · rw [if_pos ⟨by omega, h7, h8.2.1, h8.2.2⟩, if_pos h8, Option.bind_some]
                  rw [show n + 1 - 4 = n - 3 by omega]
                · rw [if_neg (fun h => h8 ⟨by omega, h.2.2.1, h.2.2.2⟩), if_neg h8]; rfl
              · rw [if_neg (fun h => h7 h.2.1)]
                have hlen : l2.length < 2 := by
                  have h9 := congrArg List.length hl2
                  rw [List.length_drop] at h9
                  have h10 : s.data.toList.length = s.size := rfl
                  omega
                match l2, hlen with
                | [], _ => rfl
                | [_], _ => rfl
        · rw [if_neg h4]
          have : l = [] := by
            rw [← hl]; exact List.drop_eq_nil_of_le (by show s.size ≤ i + 1; omega)
          subst this; rfl
theorem litL_list (s : ByteArray) : ∀ (k n i : Nat) (acc : List Int), n ≤ k → i + n = s.size → litLoop s n i acc = (litL k (s.data.toList.drop i) acc).map fun x => (x.1, i + x.2)
  | k, 0, i, acc, _, hn => by
    rw [List.drop_eq_nil_of_le (show s.data.toList.length ≤ i by show s.size ≤ i; omega)]
    cases k with
    | zero => unfold litLoop litL; rfl
    | succ k => unfold litLoop litL; rfl
  | 0, n + 1, i, acc, hk, _ => by omega
  | k + 1, n + 1, i, acc, hk, hn => by
    rw [litLoop_step s n i acc hn]
    show _ = Option.map _ (if (s.data.toList.drop i).head? = some 34 then some (acc, 1) else (charL (s.data.toList.drop i)).bind fun x => (litL k ((s.data.toList.drop i).drop x.2) (acc ++ [x.1])).map fun y => (y.1, y.2 + x.2))
    split
    · rfl
    · cases hc : charL (s.data.toList.drop i) with
      | none => rfl
      | some x =>
        obtain ⟨v, w⟩ := x
        have hw := charL_len hc
        rw [List.length_drop] at hw
        have h10 : s.data.toList.length = s.size := rfl
        simp only [Option.bind_some]
        rw [litL_list s k (n + 1 - w) (i + w) _ (by omega) (by omega), List.drop_drop, Option.map_map]
        congr 1; funext y; simp; omega
/-- the token at the head of a list: kind, text, how many bytes, the error. -/
def nextL : List UInt8 → Int × ByteArray × Nat × Int
  | [] => (6, ofL [], 0, 3)
  | c :: l =>
    if isSmall c.toNat || isCapital c.toNat then
      if kwB (ofL (runL isWord (c :: l))) then (5, ofL (runL isWord (c :: l)), (runL isWord (c :: l)).length, 0)
      else if isNameB (ofL (runL isWord (c :: l))) then (1, ofL (runL isWord (c :: l)), (runL isWord (c :: l)).length, 0)
      else if isTypeB (ofL (runL isWord (c :: l))) then (2, ofL (runL isWord (c :: l)), (runL isWord (c :: l)).length, 0)
      else (0, ofL (runL isWord (c :: l)), 0, 4)
    else if isDigit c.toNat then
      if 19 < (runL isDigit (c :: l)).length ∨ (1 < (runL isDigit (c :: l)).length ∧ c.toNat = 48) ∨ (((c :: l).drop (runL isDigit (c :: l)).length).head?.any fun d => isWord d.toNat) = true then (3, ofL (runL isDigit (c :: l)), 0, 3)
      else (3, ofL (runL isDigit (c :: l)), (runL isDigit (c :: l)).length, 0)
    else if c.toNat = 34 then
      match litL l.length l [] with
      | some (t, n) => (4, strOfNums t, n + 1, 0)
      | none => (0, ofL [], 0, 3)
    else if (symbolOf (ofL (c :: l))).size = 0 then (6, symbolOf (ofL (c :: l)), 0, 3)
    else (6, symbolOf (ofL (c :: l)), (symbolOf (ofL (c :: l))).size, 0)
theorem nextL_cons (c : UInt8) (l : List UInt8) : nextL (c :: l) = ((
    if isSmall c.toNat || isCapital c.toNat then
      if kwB (ofL (runL isWord (c :: l))) then (5, ofL (runL isWord (c :: l)), (runL isWord (c :: l)).length, 0)
      else if isNameB (ofL (runL isWord (c :: l))) then (1, ofL (runL isWord (c :: l)), (runL isWord (c :: l)).length, 0)
      else if isTypeB (ofL (runL isWord (c :: l))) then (2, ofL (runL isWord (c :: l)), (runL isWord (c :: l)).length, 0)
      else (0, ofL (runL isWord (c :: l)), 0, 4)
    else if isDigit c.toNat then
      if 19 < (runL isDigit (c :: l)).length ∨ (1 < (runL isDigit (c :: l)).length ∧ c.toNat = 48) ∨ (((c :: l).drop (runL isDigit (c :: l)).length).head?.any fun d => isWord d.toNat) = true then (3, ofL (runL isDigit (c :: l)), 0, 3)
      else (3, ofL (runL isDigit (c :: l)), (runL isDigit (c :: l)).length, 0)
    else if c.toNat = 34 then
      match litL l.length l [] with
      | some (t, n) => (4, strOfNums t, n + 1, 0)
      | none => (0, ofL [], 0, 3)
    else if (symbolOf (ofL (c :: l))).size = 0 then (6, symbolOf (ofL (c :: l)), 0, 3)
    else (6, symbolOf (ofL (c :: l)), (symbolOf (ofL (c :: l))).size, 0) : Int × ByteArray × Nat × Int)) := rfl
theorem head_at (s : ByteArray) (j : Nat) (h : j ≤ s.size) : (j < s.size ∧ isWord (bt s j) = true) ↔ ((s.data.toList.drop j).head?.any fun d => isWord d.toNat) = true := by
  by_cases hj : j < s.size
  · obtain ⟨c, l, hd, hb, _⟩ := drop_cons hj
    rw [hd, hb]; simp [hj]
  · rw [List.drop_eq_nil_of_le (by show s.size ≤ j; omega)]; simp [hj]
theorem next_list (s : ByteArray) (i : Nat) (h : i < s.size) : nextTok s i = (⟨(nextL (s.data.toList.drop i)).1, (nextL (s.data.toList.drop i)).2.1, i⟩, ((i + (nextL (s.data.toList.drop i)).2.2.1 : Nat) : Int), (nextL (s.data.toList.drop i)).2.2.2) := by
  obtain ⟨c, l, hd, hb, hl⟩ := drop_cons h
  unfold nextTok
  rw [ext_run isWord s i (by omega), ext_run isDigit s i (by omega), runEnd_list isWord s i (by omega), runEnd_list isDigit s i (by omega), hb]
  have hx : s.extract i s.size = ofL (s.data.toList.drop i) := by
    rw [ext_ofL, List.take_of_length_le]
    rw [List.length_drop]; exact Nat.le_refl _
  rw [hx]
  have hrl : (runL isDigit (s.data.toList.drop i)).length ≤ s.size - i := by
    have := runL_le isDigit (s.data.toList.drop i)
    rw [List.length_drop] at this; exact this
  have hh := head_at s (i + (runL isDigit (s.data.toList.drop i)).length) (by omega)
  rw [← List.drop_drop] at hh
  have hlit := litL_list s (s.size - (i + 1)) (s.size - (i + 1)) (i + 1) [] (Nat.le_refl _) (by omega)
  have hll : l.length = s.size - (i + 1) := by rw [← hl, List.length_drop]; rfl
  rw [hl] at hlit
  rw [hlit, ← hll]
  rw [hd] at hh ⊢
  generalize hW : runL isWord (c :: l) = W at *
  generalize hD : runL isDigit (c :: l) = D at *
  simp only [nextL, hW, hD]
  by_cases h1 : (isSmall (c.toNat : Int) || isCapital (c.toNat : Int)) = true
  · rw [if_pos h1, if_pos h1]
    split
    · simp
    · split
      · simp
      · split
        · simp
        · simp
  · rw [if_neg h1, if_neg h1]
    by_cases h2 : isDigit (c.toNat : Int) = true
    · rw [if_pos h2, if_pos h2]
      have e1 : i + D.length - i = D.length := by omega
      rw [e1]
      by_cases h3 : 19 < D.length ∨ (1 < D.length ∧ c.toNat = 48) ∨ ((List.drop D.length (c :: l)).head?.any fun d => isWord d.toNat) = true
      · rw [if_pos h3, if_pos (by
          rcases h3 with h | h | h
          · exact .inl h
          · exact .inr (.inl ⟨h.1, by omega⟩)
          · exact .inr (.inr (hh.2 h)))]
        simp
      · rw [if_neg h3, if_neg (by
          rintro (h | h | h)
          · exact h3 (.inl h)
          · exact h3 (.inr (.inl ⟨h.1, by omega⟩))
          · exact h3 (.inr (.inr (hh.1 h))))]
    · rw [if_neg h2, if_neg h2]
      by_cases h4 : c.toNat = 34
      · rw [if_pos (by omega), if_pos h4]
        cases litL l.length l [] with
        | none => simp [ofL]
        | some x => obtain ⟨t, n⟩ := x; simp; omega
      · rw [if_neg (by omega), if_neg h4]
        split
        · simp
        · simp
end
section
open Go.RowKit Go.Proofs.YtmndicibakaceaaDoorW.PrintWords Go.Proofs.YtmndicibakaceaaDoorW.PrintLast Go.Proofs.YtmndicibakaceaaDoorW.PrintMore
theorem runL_cut {p : Int → Bool} : ∀ {l : List UInt8} {m : Nat}, (runL p l).length ≤ m → runL p (l.take m) = runL p l
  | [], m, _ => by simp
  | c :: l, m, h => by
    cases hp : p (c.toNat : Int)
    · cases m with
      | zero => rw [runL_cons_neg hp]; rfl
      | succ m => rw [List.take_succ_cons, runL_cons_neg hp, runL_cons_neg hp]
    · rw [runL_cons_pos hp, List.length_cons] at h
      obtain ⟨m, rfl⟩ : ∃ k, m = k + 1 := ⟨m - 1, by omega⟩
      rw [List.take_succ_cons, runL_cons_pos hp, runL_cons_pos hp, runL_cut (by omega)]
theorem head_cut {l : List UInt8} {m : Nat} {c : UInt8} (h : (l.take m).head? = some c) : l.head? = some c := by
  cases l with
  | nil => simp at h
  | cons d l =>
    cases m with
    | zero => simp at h
    | succ m => simpa using h
theorem skip_cut : ∀ {b : Bool} {l : List UInt8} {m : Nat}, skipN b l ≤ m → skipN b (l.take m) = skipN b l
  | b, [], m, _ => by simp
  | true, c :: l, m, h => by
    cases m with
    | zero => rw [skipN_t] at h; split at h <;> omega
    | succ m =>
      rw [List.take_succ_cons, skipN_t, skipN_t]
      rw [skipN_t] at h
      split
      · rw [if_pos (by assumption)] at h; rw [skip_cut (by omega)]
      · rw [if_neg (by assumption)] at h; rw [skip_cut (by omega)]
  | false, c :: l, m, h => by
    cases m with
    | zero =>
      have : skipN false (c :: l) = 0 := by omega
      rw [this]; rfl
    | succ m =>
      rw [List.take_succ_cons, skipN_f, skipN_f]
      rw [skipN_f] at h
      by_cases h1 : c = 47 ∧ l.head? = some 47
      · rw [if_pos h1] at h
        rw [if_pos h1]
        have h2 : (l.take m).head? = some 47 := by
          cases l with
          | nil => simp at h1
          | cons d l =>
            have : d = 47 := by simpa using h1.2
            subst this
            rw [skipN_t, if_neg (by decide)] at h
            obtain ⟨k, rfl⟩ : ∃ k, m = k + 1 := ⟨m - 1, by omega⟩
            simp
        rw [if_pos ⟨h1.1, h2⟩, skip_cut (by omega)]
      · rw [if_neg h1] at h
        rw [if_neg h1, if_neg (fun h3 => h1 ⟨h3.1, head_cut h3.2⟩)]
        split
        · rw [if_pos (by assumption)] at h; rw [skip_cut (by omega)]
        · rfl
/-- behind the blanks stands no blank. -/
theorem skip_done : ∀ {b : Bool} {l : List UInt8}, skipN false (l.drop (skipN b l)) = 0
  | b, [] => by simp [skipN]
  | true, c :: l => by
    rw [skipN_t]
    split
    · rw [Nat.add_comm, List.drop_succ_cons]; exact skip_done
    · rw [Nat.add_comm, List.drop_succ_cons]; exact skip_done
  | false, c :: l => by
    by_cases h1 : c = 47 ∧ l.head? = some 47
    · rw [skipN_f, if_pos h1, Nat.add_comm, List.drop_succ_cons]; exact skip_done
    · by_cases h2 : c = 32 ∨ c = 9 ∨ c = 10 ∨ c = 13
      · rw [skipN_f, if_neg h1, if_pos h2, Nat.add_comm, List.drop_succ_cons]; exact skip_done
      · have : skipN false (c :: l) = 0 := by rw [skipN_f, if_neg h1, if_neg h2]
        rw [this]; exact this
theorem charL_cut {l : List UInt8} {v : Int} {w m : Nat} (h : charL l = some (v, w)) (hm : w ≤ m) : charL (l.take m) = some (v, w) := by
  have hw := charL_len h
  match l, h with
  | [], h => cases h
  | c :: l1, h =>
    obtain ⟨m, rfl⟩ : ∃ q, m = q + 1 := ⟨m - 1, by omega⟩
    rw [List.take_succ_cons]
    rw [charL_cons] at h ⊢
    by_cases h1 : c.toNat = 34 ∨ c.toNat < 32
    · rw [if_pos h1] at h; cases h
    · rw [if_neg h1] at h ⊢
      by_cases h2 : c.toNat ≠ 92
      · rw [if_pos h2] at h ⊢; exact h
      · rw [if_neg h2] at h ⊢
        match l1, h with
        | [], h => cases h
        | d :: l2, h =>
          simp only at h
          have hm2 : 2 ≤ w := by
            split at h
            · injection h with h; injection h with _ h; omega
            · split at h
              · injection h with h; injection h with _ h; omega
              · match l2, h with
                | [], h => cases h
                | [_], h => cases h
                | e :: f :: l3, h =>
                  simp only at h
                  split at h
                  · injection h with h; injection h with _ h; omega
                  · cases h
          obtain ⟨m, rfl⟩ : ∃ q, m = q + 1 := ⟨m - 1, by omega⟩
          rw [List.take_succ_cons]
          simp only
          by_cases h3 : d.toNat = 34 ∨ d.toNat = 92
          · rw [if_pos h3] at h ⊢; exact h
          · rw [if_neg h3] at h ⊢
            by_cases h4 : d.toNat = 110
            · rw [if_pos h4] at h ⊢; exact h
            · rw [if_neg h4] at h ⊢
              match l2, h with
              | [], h => cases h
              | [_], h => cases h
              | e :: f :: l3, h =>
                simp only at h
                have hm4 : 4 ≤ w := by
                  split at h
                  · injection h with h; injection h with _ h; omega
                  · cases h
                obtain ⟨m, rfl⟩ : ∃ q, m = q + 2 := ⟨m - 2, by omega⟩
                rw [List.take_succ_cons, List.take_succ_cons]
                exact h
theorem litL_pos {k : Nat} {l : List UInt8} {acc t : List Int} {n : Nat} (h : litL k l acc = some (t, n)) : 0 < n := by
  cases k with
  | zero => cases h
  | succ k =>
    unfold litL at h
    split at h
    · injection h with h; injection h with _ h; omega
    · obtain ⟨x, hx, h⟩ := Option.bind_eq_some_iff.1 h
      obtain ⟨y, _, h⟩ := Option.map_eq_some_iff.1 h
      have := charL_len (v := x.1) (w := x.2) hx
      injection h with _ h; omega
theorem litL_cut : ∀ (k : Nat) {l : List UInt8} {acc t : List Int} {n m k' : Nat}, litL k l acc = some (t, n) → n ≤ m → (l.take m).length ≤ k' → litL k' (l.take m) acc = some (t, n)
  | 0, l, acc, t, n, m, k', h, _, _ => by cases h
  | k + 1, l, acc, t, n, m, k', h, hn, hk => by
    have hp := litL_pos h
    have hne : l ≠ [] := by
      rintro rfl
      unfold litL at h
      rw [if_neg (by simp)] at h
      cases h
    obtain ⟨c, l1, rfl⟩ := List.exists_cons_of_ne_nil hne
    have hlt : 0 < ((c :: l1).take m).length := by rw [List.length_take, List.length_cons]; omega
    obtain ⟨k', rfl⟩ : ∃ q, k' = q + 1 := ⟨k' - 1, by omega⟩
    unfold litL at h ⊢
    have hh : ((c :: l1).take m).head? = (c :: l1).head? := by
      obtain ⟨m, rfl⟩ : ∃ q, m = q + 1 := ⟨m - 1, by omega⟩
      rfl
    rw [hh]
    split at h
    · rw [if_pos (by assumption)]; exact h
    · rw [if_neg (by assumption)]
      obtain ⟨⟨v, w⟩, hx, h⟩ := Option.bind_eq_some_iff.1 h
      obtain ⟨⟨t', n'⟩, hy, h⟩ := Option.map_eq_some_iff.1 h
      injection h with h1 h2
      simp only at h1 h2 hy
      subst h1 h2
      have hw := charL_len hx
      rw [charL_cut hx (by omega), Option.bind_some]
      simp only
      rw [List.drop_take, litL_cut k hy (m := m - w) (by omega) (by
        rw [List.length_take, List.length_drop]; rw [List.length_take] at hk; omega)]
      rfl
theorem begins_list (l : List UInt8) (x : ByteArray) : begins (ofL l) x = x.data.toList.isPrefixOf l := by
  unfold begins Lib.hasPrefix; rw [ofL_list]
theorem prefix_cut {x l : List UInt8} {m : Nat} (h : x.isPrefixOf (l.take m) = true) : x.isPrefixOf l = true := by
  rw [List.isPrefixOf_iff_prefix] at *
  exact h.trans (List.take_prefix m l)
theorem prefix_cut' {x l : List UInt8} {m : Nat} (h : x.isPrefixOf l = true) (hm : x.length ≤ m) : x.isPrefixOf (l.take m) = true := by
  rw [List.isPrefixOf_iff_prefix] at *
  obtain ⟨r, rfl⟩ := h
  rw [List.take_append, List.take_of_length_le hm]
  exact ⟨_, rfl⟩
theorem find_cut {p q : ByteArray → Bool} : ∀ {l : List ByteArray} {y : ByteArray}, l.find? p = some y → q y = true → (∀ x, q x = true → p x = true) → l.find? q = some y
  | [], y, h, _, _ => by simp at h
  | x :: l, y, h, hy, hq => by
    rw [List.find?_cons] at h ⊢
    cases hp : p x
    · rw [hp] at h
      cases hqx : q x
      · exact find_cut h hy hq
      · rw [hq x hqx] at hp; cases hp
    · rw [hp] at h
      injection h with h; subst h
      rw [hy]
theorem find_cut_none {p q : ByteArray → Bool} {l : List ByteArray} (h : l.find? p = none) (hq : ∀ x, q x = true → p x = true) : l.find? q = none := by
  rw [List.find?_eq_none] at *
  intro x hx hqx
  exact h x hx (hq x hqx)
theorem symbol_cut {l : List UInt8} {m : Nat} (h0 : (symbolOf (ofL l)).size ≠ 0) (hm : (symbolOf (ofL l)).size ≤ m) : symbolOf (ofL (l.take m)) = symbolOf (ofL l) := by
  have hq : ∀ x, begins (ofL (l.take m)) x = true → begins (ofL l) x = true := fun x h => by
    rw [begins_list] at *; exact prefix_cut h
  unfold symbolOf at h0 hm ⊢
  cases hf : longSyms.find? (begins (ofL l)) with
  | some y =>
    rw [hf] at h0 hm
    simp only at h0 hm
    have hb : begins (ofL l) y = true := by simpa using List.find?_some hf
    have hb2 : begins (ofL (l.take m)) y = true := by
      rw [begins_list] at *; exact prefix_cut' hb hm
    rw [find_cut hf hb2 hq]
  | none =>
    rw [hf] at h0 hm
    simp only at h0 hm
    rw [find_cut_none hf hq]
    simp only
    match l, m with
    | [], m => simp
    | c :: l, 0 =>
      split at hm
      · rw [ByteArray.size_extract, ofL_size] at hm; simp at hm
      · rename_i hn
        rw [if_neg hn] at h0; exact absurd rfl h0
    | c :: l, m + 1 =>
      have hb0 : bt (ofL (c :: l)) 0 = bt (ofL (c :: l.take m)) 0 := rfl
      rw [List.take_succ_cons, ← hb0]
      by_cases hc : 0 < (ofL (c :: l)).size ∧ 0 ≤ Lib.indexByte oneSyms.data.toList (bt (ofL (c :: l)) 0).toNat.toUInt8
      · rw [if_pos hc, if_pos ⟨by rw [ofL_size]; simp, hc.2⟩, ext_ofL, ext_ofL, ofL_list, ofL_list]; rfl
      · rw [if_neg hc] at h0; exact absurd rfl h0
/-- a token without an error takes a byte at least, and stays as it is where the list is cut behind it. -/
theorem next_pos {l : List UInt8} (h : (nextL l).2.2.2 = 0) : 0 < (nextL l).2.2.1 ∧ l ≠ [] := by
  match l with
  | [] => simp [nextL] at h
  | c :: l =>
    refine ⟨?_, by simp⟩
    rw [nextL_cons] at h ⊢
    have hw : (isSmall c.toNat || isCapital c.toNat) = true → 0 < (runL isWord (c :: l)).length := fun hc => by
      rw [runL_cons_pos (by unfold isWord; rw [← Bool.or_assoc, hc]; rfl)]; simp
    split at h
    · rename_i hc
      rw [if_pos hc]
      split at h
      · rw [if_pos (by assumption)]; exact hw hc
      · rw [if_neg (by assumption)]
        split at h
        · rw [if_pos (by assumption)]; exact hw hc
        · rw [if_neg (by assumption)]
          split at h
          · rw [if_pos (by assumption)]; exact hw hc
          · simp at h
    · rename_i hc
      rw [if_neg hc]
      split at h
      · rename_i hd
        rw [if_pos hd]
        split at h
        · simp at h
        · rw [if_neg (by assumption), runL_cons_pos hd]; simp
      · rename_i hd
        rw [if_neg hd]
        split at h
        · rename_i hq
          rw [if_pos hq]
          cases hl : litL l.length l [] with
          | none => rw [hl] at h; simp at h
          | some x => simp
        · rename_i hq
          rw [if_neg hq]
          split at h
          · simp at h
          · rw [if_neg (by assumption)]; simp; omega
theorem next_cut {l : List UInt8} {m : Nat} (h : (nextL l).2.2.2 = 0) (hm : (nextL l).2.2.1 ≤ m) : nextL (l.take m) = nextL l := by
  have hp := next_pos h
  match l with
  | [] => simp [nextL] at h
  | c :: l =>
    obtain ⟨m, rfl⟩ : ∃ q, m = q + 1 := ⟨m - 1, by omega⟩
    rw [List.take_succ_cons]
    have e0 : c :: l.take m = (c :: l).take (m + 1) := rfl
    rw [nextL_cons] at h hm
    rw [nextL_cons, nextL_cons]
    by_cases hc : (isSmall c.toNat || isCapital c.toNat) = true
    · rw [if_pos hc] at h hm ⊢
      rw [if_pos hc]
      have hcut : (runL isWord (c :: l)).length ≤ m + 1 := by
        split at h
        · rw [if_pos (by assumption)] at hm; exact hm
        · rw [if_neg (by assumption)] at hm
          split at h
          · rw [if_pos (by assumption)] at hm; exact hm
          · rw [if_neg (by assumption)] at hm
            split at h
            · rw [if_pos (by assumption)] at hm; exact hm
            · simp at h
      rw [e0, runL_cut hcut]
    · rw [if_neg hc] at h hm ⊢
      rw [if_neg hc]
      by_cases hd : isDigit c.toNat = true
      · rw [if_pos hd] at h hm ⊢
        rw [if_pos hd]
        split at h
        · simp at h
        · rename_i hn
          rw [if_neg hn] at hm ⊢
          have hm' : (runL isDigit (c :: l)).length ≤ m + 1 := hm
          rw [e0, runL_cut hm', if_neg]
          rintro (h1 | h1 | h1)
          · exact hn (.inl h1)
          · exact hn (.inr (.inl h1))
          · refine hn (.inr (.inr ?_))
            rw [List.drop_take] at h1
            cases hh : (List.take (m + 1 - (runL isDigit (c :: l)).length) (List.drop (runL isDigit (c :: l)).length (c :: l))).head? with
            | none => rw [hh] at h1; simp at h1
            | some d => rw [hh] at h1; rw [head_cut hh]; exact h1
      · rw [if_neg hd] at h hm ⊢
        rw [if_neg hd]
        by_cases hq : c.toNat = 34
        · rw [if_pos hq] at h hm ⊢
          rw [if_pos hq]
          cases hl : litL l.length l [] with
          | none => rw [hl] at h; simp at h
          | some x =>
            obtain ⟨t, n⟩ := x
            rw [hl] at hm
            rw [litL_cut _ hl (m := m) (by simpa using hm) (Nat.le_refl _)]
        · rw [if_neg hq] at h hm ⊢
          rw [if_neg hq]
          split at h
          · simp at h
          · rename_i hs
            rw [if_neg hs] at hm ⊢
            rw [e0, symbol_cut hs hm, if_neg hs]
/-- the tokens at the head of a list that begins with no blank; o: its offset. -/
def toksL : Nat → List UInt8 → Nat → List (S36 × Int)
  | 0, _, _ => []
  | k + 1, l, o =>
    if l = [] then [(⟨0, ⟨#[]⟩, o⟩, 0)]
    else if (nextL l).2.2.2 = 0 then
      (⟨(nextL l).1, (nextL l).2.1, o⟩, 0) :: toksL k ((l.drop (nextL l).2.2.1).drop (skipN false (l.drop (nextL l).2.2.1))) (o + (nextL l).2.2.1 + skipN false (l.drop (nextL l).2.2.1))
    else [(⟨(nextL l).1, (nextL l).2.1, o⟩, (nextL l).2.2.2)]
theorem toks_list (s : ByteArray) : ∀ (k i : Nat), i ≤ s.size → toksAt s k i = toksL k (s.data.toList.drop i) i
  | 0, _, _ => rfl
  | k + 1, i, hi => by
    unfold toksAt toksL
    by_cases h : i < s.size
    · have hne : s.data.toList.drop i ≠ [] := by
        obtain ⟨c, l, hd, _⟩ := drop_cons h
        rw [hd]; simp
      rw [if_pos h, if_neg hne, next_list s i h]
      simp only
      split
      · rename_i h0
        have hle : i + (nextL (s.data.toList.drop i)).2.2.1 ≤ s.size := by
          have hn : nextTok s i = (⟨(nextL (s.data.toList.drop i)).1, (nextL (s.data.toList.drop i)).2.1, i⟩, ((i + (nextL (s.data.toList.drop i)).2.2.1 : Nat) : Int), 0) := by
            rw [next_list s i h, h0]
          obtain ⟨n, h1, h2, h3⟩ := nextTok_end s i h _ _ hn
          omega
        have hb := blanksTo_le s (i + (nextL (s.data.toList.drop i)).2.2.1) hle
        rw [Int.toNat_natCast, toks_list s k _ hb]
        unfold blanksTo
        rw [← List.drop_drop, ← List.drop_drop]
      · rfl
    · have hnil : s.data.toList.drop i = [] := List.drop_eq_nil_of_le (by show s.size ≤ i; omega)
      have : i = s.size := by omega
      subst this
      rw [if_neg h, if_pos hnil]
theorem toks_of (s : ByteArray) : toks s = toksL (s.size + 1) (s.data.toList.drop (skipN false s.data.toList)) (skipN false s.data.toList) := by
  have h := blanksTo_le s 0 (Nat.zero_le _)
  unfold toks
  rw [toks_list s _ _ h]
  unfold blanksTo
  simp
theorem lex_some (s : ByteArray) (hs : s.size ≤ 60000) : lexer_Lex.f s = some (scanToks (toksL (s.size + 1) (s.data.toList.drop (skipN false s.data.toList)) (skipN false s.data.toList)) []) := by
  unfold lexer_Lex.f lexOf
  rw [if_pos (by omega), if_neg (by omega), toks_of]
end
end Go.Proofs.YtmndicibakaceaaDoor.Pr
