/- What lexer.Lex answers, told of lists; what stays as it is where the list is cut behind a token. -/
import Derived.Test.YtmndicibakaceaaDoorPuList
namespace Go.Proofs.YtmndicibakaceaaDoor.Pr
open Go.RowKit Go.Proofs.YtmndicibakaceaaDoorW.PrintWords Go.Proofs.YtmndicibakaceaaDoorW.PrintLast Go.Proofs.YtmndicibakaceaaDoorW.PrintMore
theorem runL_cut {p : Int → Bool} : ∀ {l : List UInt8} {m : Nat}, (runL p l).length ≤ m → runL p (l.take m) = runL p l
  | [], m, _ => by simp
  | c :: l, m, h => by
    cases hp : p (c.toNat : Int)
    · cases m with
      | zero => rw [runL_cons_neg hp]; rfl
      | succ m => rw [List.take_succ_cons, runL_cons_neg hp, runL_cons_neg hp]
    · rw [runL_cons_pos hp, List.length_cons] at h
      obtain ⟨m, rfl⟩ : ∃ k, m = k + 1 := ⟨m - 1, by omega⟩
      rw [List.take_succ_cons, runL_cons_pos hp, runL_cons_pos hp, runL_cut (by omega)]
theorem head_cut {l : List UInt8} {m : Nat} {c : UInt8} (h : (l.take m).head? = some c) : l.head? = some c := by
  cases l with
  | nil => simp at h
  | cons d l =>
    cases m with
    | zero => simp at h
    | succ m => simpa using h
theorem skip_cut : ∀ {b : Bool} {l : List UInt8} {m : Nat}, skipN b l ≤ m → skipN b (l.take m) = skipN b l
  | b, [], m, _ => by simp
  | true, c :: l, m, h => by
    cases m with
    | zero => rw [skipN_t] at h; split at h <;> omega
    | succ m =>
      rw [List.take_succ_cons, skipN_t, skipN_t]
      rw [skipN_t] at h
      split
      · rw [if_pos (by assumption)] at h; rw [skip_cut (by omega)]
      · rw [if_neg (by assumption)] at h; rw [skip_cut (by omega)]
  | false, c :: l, m, h => by
    cases m with
    | zero =>
      have : skipN false (c :: l) = 0 := by omega
      rw [this]; rfl
    | succ m =>
      rw [List.take_succ_cons, skipN_f, skipN_f]
      rw [skipN_f] at h
      by_cases h1 : c = 47 ∧ l.head? = some 47
      · rw [if_pos h1] at h
        rw [if_pos h1]
        have h2 : (l.take m).head? = some 47 := by
          cases l with
          | nil => simp at h1
          | cons d l =>
            have : d = 47 := by simpa using h1.2
            subst this
            rw [skipN_t, if_neg (by decide)] at h
            obtain ⟨k, rfl⟩ : ∃ k, m = k + 1 := ⟨m - 1, by omega⟩
            simp
        rw [if_pos ⟨h1.1, h2⟩, skip_cut (by omega)]
      · rw [if_neg h1] at h
        rw [if_neg h1, if_neg (fun h3 => h1 ⟨h3.1, head_cut h3.2⟩)]
        split
        · rw [if_pos (by assumption)] at h; rw [skip_cut (by omega)]
        · rfl
/-- behind the blanks stands no blank. -/
theorem skip_done : ∀ {b : Bool} {l : List UInt8}, skipN false (l.drop (skipN b l)) = 0
  | b, [] => by simp [skipN]
  | true, c :: l => by
    rw [skipN_t]
    split
    · rw [Nat.add_comm, List.drop_succ_cons]; exact skip_done
    · rw [Nat.add_comm, List.drop_succ_cons]; exact skip_done
  | false, c :: l => by
    by_cases h1 : c = 47 ∧ l.head? = some 47
    · rw [skipN_f, if_pos h1, Nat.add_comm, List.drop_succ_cons]; exact skip_done
    · by_cases h2 : c = 32 ∨ c = 9 ∨ c = 10 ∨ c = 13
      · rw [skipN_f, if_neg h1, if_pos h2, Nat.add_comm, List.drop_succ_cons]; exact skip_done
      · have : skipN false (c :: l) = 0 := by rw [skipN_f, if_neg h1, if_neg h2]
        rw [this]; exact this
theorem charL_cut {l : List UInt8} {v : Int} {w m : Nat} (h : charL l = some (v, w)) (hm : w ≤ m) : charL (l.take m) = some (v, w) := by
  have hw := charL_len h
  match l, h with
  | [], h => cases h
  | c :: l1, h =>
    obtain ⟨m, rfl⟩ : ∃ q, m = q + 1 := ⟨m - 1, by omega⟩
    rw [List.take_succ_cons]
    rw [charL_cons] at h ⊢
    by_cases h1 : c.toNat = 34 ∨ c.toNat < 32
    · rw [if_pos h1] at h; cases h
    · rw [if_neg h1] at h ⊢
      by_cases h2 : c.toNat ≠ 92
      · rw [if_pos h2] at h ⊢; exact h
      · rw [if_neg h2] at h ⊢
        match l1, h with
        | [], h => cases h
        | d :: l2, h =>
          simp only at h
          have hm2 : 2 ≤ w := by
            split at h
            · injection h with h; injection h with _ h; omega
            · split at h
              · injection h with h; injection h with _ h; omega
              · match l2, h with
                | [], h => cases h
                | [_], h => cases h
                | e :: f :: l3, h =>
                  simp only at h
                  split at h
                  · injection h with h; injection h with _ h; omega
                  · cases h
          obtain ⟨m, rfl⟩ : ∃ q, m = q + 1 := ⟨m - 1, by omega⟩
          rw [List.take_succ_cons]
          simp only
          by_cases h3 : d.toNat = 34 ∨ d.toNat = 92
          · rw [if_pos h3] at h ⊢; exact h
          · rw [if_neg h3] at h ⊢
            by_cases h4 : d.toNat = 110
            · rw [if_pos h4] at h ⊢; exact h
            · rw [if_neg h4] at h ⊢
              match l2, h with
              | [], h => cases h
              | [_], h => cases h
              | e :: f :: l3, h =>
                simp only at h
                have hm4 : 4 ≤ w := by
                  split at h
                  · injection h with h; injection h with _ h; omega
                  · cases h
                obtain ⟨m, rfl⟩ : ∃ q, m = q + 2 := ⟨m - 2, by omega⟩
                rw [List.take_succ_cons, List.take_succ_cons]
                exact h
theorem litL_pos {k : Nat} {l : List UInt8} {acc t : List Int} {n : Nat} (h : litL k l acc = some (t, n)) : 0 < n := by
  cases k with
  | zero => cases h
  | succ k =>
    unfold litL at h
    split at h
    · injection h with h; injection h with _ h; omega
    · obtain ⟨x, hx, h⟩ := Option.bind_eq_some_iff.1 h
      obtain ⟨y, _, h⟩ := Option.map_eq_some_iff.1 h
      have := charL_len (v := x.1) (w := x.2) hx
      injection h with _ h; omega
theorem litL_cut : ∀ (k : Nat) {l : List UInt8} {acc t : List Int} {n m k' : Nat}, litL k l acc = some (t, n) → n ≤ m → (l.take m).length ≤ k' → litL k' (l.take m) acc = some (t, n)
  | 0, l, acc, t, n, m, k', h, _, _ => by cases h
  | k + 1, l, acc, t, n, m, k', h, hn, hk => by
    have hp := litL_pos h
    have hne : l ≠ [] := by
      rintro rfl
      unfold litL at h
      rw [if_neg (by simp)] at h
      cases h
    obtain ⟨c, l1, rfl⟩ := List.exists_cons_of_ne_nil hne
    have hlt : 0 < ((c :: l1).take m).length := by rw [List.length_take, List.length_cons]; omega
    obtain ⟨k', rfl⟩ : ∃ q, k' = q + 1 := ⟨k' - 1, by omega⟩
    unfold litL at h ⊢
    have hh : ((c :: l1).take m).head? = (c :: l1).head? := by
      obtain ⟨m, rfl⟩ : ∃ q, m = q + 1 := ⟨m - 1, by omega⟩
      rfl
    rw [hh]
    split at h
    · rw [if_pos (by assumption)]; exact h
    · rw [if_neg (by assumption)]
      obtain ⟨⟨v, w⟩, hx, h⟩ := Option.bind_eq_some_iff.1 h
      obtain ⟨⟨t', n'⟩, hy, h⟩ := Option.map_eq_some_iff.1 h
      injection h with h1 h2
      simp only at h1 h2 hy
      subst h1 h2
      have hw := charL_len hx
      rw [charL_cut hx (by omega), Option.bind_some]
      simp only
      rw [List.drop_take, litL_cut k hy (m := m - w) (by omega) (by
        rw [List.length_take, List.length_drop]; rw [List.length_take] at hk; omega)]
      rfl
theorem begins_list (l : List UInt8) (x : ByteArray) : begins (ofL l) x = x.data.toList.isPrefixOf l := by
  unfold begins Lib.hasPrefix; rw [ofL_list]
theorem prefix_cut {x l : List UInt8} {m : Nat} (h : x.isPrefixOf (l.take m) = true) : x.isPrefixOf l = true := by
  rw [List.isPrefixOf_iff_prefix] at *
  exact h.trans (List.take_prefix m l)
theorem prefix_cut' {x l : List UInt8} {m : Nat} (h : x.isPrefixOf l = true) (hm : x.length ≤ m) : x.isPrefixOf (l.take m) = true := by
  rw [List.isPrefixOf_iff_prefix] at *
  obtain ⟨r, rfl⟩ := h
  rw [List.take_append, List.take_of_length_le hm]
  exact ⟨_, rfl⟩
theorem find_cut {p q : ByteArray → Bool} : ∀ {l : List ByteArray} {y : ByteArray}, l.find? p = some y → q y = true → (∀ x, q x = true → p x = true) → l.find? q = some y
  | [], y, h, _, _ => by simp at h
  | x :: l, y, h, hy, hq => by
    rw [List.find?_cons] at h ⊢
    cases hp : p x
    · rw [hp] at h
      cases hqx : q x
      · exact find_cut h hy hq
      · rw [hq x hqx] at hp; cases hp
    · rw [hp] at h
      injection h with h; subst h
      rw [hy]
theorem find_cut_none {p q : ByteArray → Bool} {l : List ByteArray} (h : l.find? p = none) (hq : ∀ x, q x = true → p x = true) : l.find? q = none := by
  rw [List.find?_eq_none] at *
  intro x hx hqx
  exact h x hx (hq x hqx)
theorem symbol_cut {l : List UInt8} {m : Nat} (h0 : (symbolOf (ofL l)).size ≠ 0) (hm : (symbolOf (ofL l)).size ≤ m) : symbolOf (ofL (l.take m)) = symbolOf (ofL l) := by
  have hq : ∀ x, begins (ofL (l.take m)) x = true → begins (ofL l) x = true := fun x h => by
    rw [begins_list] at *; exact prefix_cut h
  unfold symbolOf at h0 hm ⊢
  cases hf : longSyms.find? (begins (ofL l)) with
  | some y =>
    rw [hf] at h0 hm
    simp only at h0 hm
    have hb : begins (ofL l) y = true := by simpa using List.find?_some hf
    have hb2 : begins (ofL (l.take m)) y = true := by
      rw [begins_list] at *; exact prefix_cut' hb hm
    rw [find_cut hf hb2 hq]
  | none =>
    rw [hf] at h0 hm
    simp only at h0 hm
    rw [find_cut_none hf hq]
    simp only
    match l, m with
    | [], m => simp
    | c :: l, 0 =>
      split at hm
      · rw [ByteArray.size_extract, ofL_size] at hm; simp at hm
      · rename_i hn
        rw [if_neg hn] at h0; exact absurd rfl h0
    | c :: l, m + 1 =>
      have hb0 : bt (ofL (c :: l)) 0 = bt (ofL (c :: l.take m)) 0 := rfl
      rw [List.take_succ_cons, ← hb0]
      by_cases hc : 0 < (ofL (c :: l)).size ∧ 0 ≤ Lib.indexByte oneSyms.data.toList (bt (ofL (c :: l)) 0).toNat.toUInt8
      · rw [if_pos hc, if_pos ⟨by rw [ofL_size]; simp, hc.2⟩, ext_ofL, ext_ofL, ofL_list, ofL_list]; rfl
      · rw [if_neg hc] at h0; exact absurd rfl h0
/-- a token without an error takes a byte at least, and stays as it is where the list is cut behind it. -/
theorem next_pos {l : List UInt8} (h : (nextL l).2.2.2 = 0) : 0 < (nextL l).2.2.1 ∧ l ≠ [] := by
  match l with
  | [] => simp [nextL] at h
  | c :: l =>
    refine ⟨?_, by simp⟩
    rw [nextL_cons] at h ⊢
    have hw : (isSmall c.toNat || isCapital c.toNat) = true → 0 < (runL isWord (c :: l)).length := fun hc => by
      rw [runL_cons_pos (by unfold isWord; rw [← Bool.or_assoc, hc]; rfl)]; simp
    split at h
    · rename_i hc
      rw [if_pos hc]
      split at h
      · rw [if_pos (by assumption)]; exact hw hc
      · rw [if_neg (by assumption)]
        split at h
        · rw [if_pos (by assumption)]; exact hw hc
        · rw [if_neg (by assumption)]
          split at h
          · rw [if_pos (by assumption)]; exact hw hc
          · simp at h
    · rename_i hc
      rw [if_neg hc]
      split at h
      · rename_i hd
        rw [if_pos hd]
        split at h
        · simp at h
        · rw [if_neg (by assumption), runL_cons_pos hd]; simp
      · rename_i hd
        rw [if_neg hd]
        split at h
        · rename_i hq
          rw [if_pos hq]
          cases hl : litL l.length l [] with
          | none => rw [hl] at h; simp at h
          | some x => simp
        · rename_i hq
          rw [if_neg hq]
          split at h
          · simp at h
          · rw [if_neg (by assumption)]; simp; omega
theorem next_cut {l : List UInt8} {m : Nat} (h : (nextL l).2.2.2 = 0) (hm : (nextL l).2.2.1 ≤ m) : nextL (l.take m) = nextL l := by
  have hp := next_pos h
  match l with
  | [] => simp [nextL] at h
  | c :: l =>
    obtain ⟨m, rfl⟩ : ∃ q, m = q + 1 := ⟨m - 1, by omega⟩
    rw [List.take_succ_cons]
    have e0 : c :: l.take m = (c :: l).take (m + 1) := rfl
    rw [nextL_cons] at h hm
    rw [nextL_cons, nextL_cons]
    by_cases hc : (isSmall c.toNat || isCapital c.toNat) = true
    · rw [if_pos hc] at h hm ⊢
      rw [if_pos hc]
      have hcut : (runL isWord (c :: l)).length ≤ m + 1 := by
        split at h
        · rw [if_pos (by assumption)] at hm; exact hm
        · rw [if_neg (by assumption)] at hm
          split at h
          · rw [if_pos (by assumption)] at hm; exact hm
          · rw [if_neg (by assumption)] at hm
            split at h
            · rw [if_pos (by assumption)] at hm; exact hm
            · simp at h
      rw [e0, runL_cut hcut]
    · rw [if_neg hc] at h hm ⊢
      rw [if_neg hc]
      by_cases hd : isDigit c.toNat = true
      · rw [if_pos hd] at h hm ⊢
        rw [if_pos hd]
        split at h
        · simp at h
        · rename_i hn
          rw [if_neg hn] at hm ⊢
          have hm' : (runL isDigit (c :: l)).length ≤ m + 1 := hm
          rw [e0, runL_cut hm', if_neg]
          rintro (h1 | h1 | h1)
          · exact hn (.inl h1)
          · exact hn (.inr (.inl h1))
          · refine hn (.inr (.inr ?_))
            rw [List.drop_take] at h1
            cases hh : (List.take (m + 1 - (runL isDigit (c :: l)).length) (List.drop (runL isDigit (c :: l)).length (c :: l))).head? with
            | none => rw [hh] at h1; simp at h1
            | some d => rw [hh] at h1; rw [head_cut hh]; exact h1
      · rw [if_neg hd] at h hm ⊢
        rw [if_neg hd]
        by_cases hq : c.toNat = 34
        · rw [if_pos hq] at h hm ⊢
          rw [if_pos hq]
          cases hl : litL l.length l [] with
          | none => rw [hl] at h; simp at h
          | some x =>
            obtain ⟨t, n⟩ := x
            rw [hl] at hm
            rw [litL_cut _ hl (m := m) (by simpa using hm) (Nat.le_refl _)]
        · rw [if_neg hq] at h hm ⊢
          rw [if_neg hq]
          split at h
          · simp at h
          · rename_i hs
            rw [if_neg hs] at hm ⊢
            rw [e0, symbol_cut hs hm, if_neg hs]
/-- the tokens at the head of a list that begins with no blank; o: its offset. -/
def toksL : Nat → List UInt8 → Nat → List (S36 × Int)
  | 0, _, _ => []
  | k + 1, l, o =>
    if l = [] then [(⟨0, ⟨#[]⟩, o⟩, 0)]
    else if (nextL l).2.2.2 = 0 then
      (⟨(nextL l).1, (nextL l).2.1, o⟩, 0) :: toksL k ((l.drop (nextL l).2.2.1).drop (skipN false (l.drop (nextL l).2.2.1))) (o + (nextL l).2.2.1 + skipN false (l.drop (nextL l).2.2.1))
    else [(⟨(nextL l).1, (nextL l).2.1, o⟩, (nextL l).2.2.2)]
theorem toks_list (s : ByteArray) : ∀ (k i : Nat), i ≤ s.size → toksAt s k i = toksL k (s.data.toList.drop i) i
  | 0, _, _ => rfl
  | k + 1, i, hi => by
    unfold toksAt toksL
    by_cases h : i < s.size
    · have hne : s.data.toList.drop i ≠ [] := by
        obtain ⟨c, l, hd, _⟩ := drop_cons h
        rw [hd]; simp
      rw [if_pos h, if_neg hne, next_list s i h]
      simp only
      split
      · rename_i h0
        have hle : i + (nextL (s.data.toList.drop i)).2.2.1 ≤ s.size := by
          have hn : nextTok s i = (⟨(nextL (s.data.toList.drop i)).1, (nextL (s.data.toList.drop i)).2.1, i⟩, ((i + (nextL (s.data.toList.drop i)).2.2.1 : Nat) : Int), 0) := by
            rw [next_list s i h, h0]
          obtain ⟨n, h1, h2, h3⟩ := nextTok_end s i h _ _ hn
          omega
        have hb := blanksTo_le s (i + (nextL (s.data.toList.drop i)).2.2.1) hle
        rw [Int.toNat_natCast, toks_list s k _ hb]
        unfold blanksTo
        rw [← List.drop_drop, ← List.drop_drop]
      · rfl
    · have hnil : s.data.toList.drop i = [] := List.drop_eq_nil_of_le (by show s.size ≤ i; omega)
      have : i = s.size := by omega
      subst this
      rw [if_neg h, if_pos hnil]
theorem toks_of (s : ByteArray) : toks s = toksL (s.size + 1) (s.data.toList.drop (skipN false s.data.toList)) (skipN false s.data.toList) := by
  have h := blanksTo_le s 0 (Nat.zero_le _)
  unfold toks
  rw [toks_list s _ _ h]
  unfold blanksTo
  simp
end Go.Proofs.YtmndicibakaceaaDoor.Pr
