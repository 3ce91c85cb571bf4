/- What a token without an error looks like, told of lists. | Tokens that are written with blanks and comments between them are read as the same tokens: told of lists. -/
import Derived.Test.YtmndicibakaceaaDoorPuLex
import Derived.Test.YtmndicibakaceaaDoorPuQuo
namespace Go.Proofs.YtmndicibakaceaaDoor.Pr
section
open Go.RowKit Go.Proofs.YtmndicibakaceaaDoorW.PrintWords Go.Proofs.YtmndicibakaceaaDoorW.PrintLast Go.Proofs.YtmndicibakaceaaDoorW.PrintMore
theorem litL_len_s : ∀ (k : Nat) {l : List UInt8} {acc t : List Int} {n : Nat}, litL k l acc = some (t, n) → t.length + 1 ≤ acc.length + n ∧ n ≤ l.length
  | 0, l, acc, t, n, h => by cases h
  | k + 1, l, acc, t, n, h => by
    unfold litL at h
    split at h
    · rename_i hh
      injection h with h; injection h with h1 h2; subst h1 h2
      have : l ≠ [] := by rintro rfl; simp at hh
      have := List.length_pos_iff.2 this
      omega
    · obtain ⟨⟨v, w⟩, hx, h⟩ := Option.bind_eq_some_iff.1 h
      obtain ⟨⟨t', n'⟩, hy, h⟩ := Option.map_eq_some_iff.1 h
      injection h with h1 h2
      simp only at h1 h2 hy
      subst h1 h2
      have hw := charL_len hx
      have := litL_len_s k hy
      rw [List.length_drop] at this
      simp at this; omega
theorem symbol_take_s (l : List UInt8) : symbolOf (ofL l) = ofL (l.take (symbolOf (ofL l)).size) := by
  unfold symbolOf
  split
  · rename_i x hx
    have hb : begins (ofL l) x = true := by simpa using List.find?_some hx
    rw [begins_list, List.isPrefixOf_iff_prefix] at hb
    obtain ⟨r, hr⟩ := hb
    have : l.take x.size = x.data.toList := by rw [← hr]; exact List.take_left' rfl
    rw [this, ofL_of]
  · split
    · rename_i hc
      rw [ofL_size] at hc
      rw [ext_ofL, ofL_list, ofL_size, List.length_take]
      congr 1
      simp
    · rfl
/-- what a token without an error looks like. -/
theorem next_shape_s {l : List UInt8} (h : (nextL l).2.2.2 = 0) : (nextL l).2.2.1 ≤ l.length ∧ (((nextL l).1 = 4 ∧ l.head? = some 34 ∧ (nextL l).2.1.size + 2 ≤ (nextL l).2.2.1) ∨ ((nextL l).1 ≠ 4 ∧ (nextL l).1 ≠ 0 ∧ (nextL l).2.1 = ofL (l.take (nextL l).2.2.1) ∧ (nextL l).2.1.size = (nextL l).2.2.1)) := by
  match l with
  | [] => simp [nextL] at h
  | c :: l =>
    rw [nextL_cons] at h ⊢
    have hr : ∀ p, (runL p (c :: l)).length ≤ (c :: l).length ∧ ofL (runL p (c :: l)) = ofL ((c :: l).take (runL p (c :: l)).length) ∧ (ofL (runL p (c :: l))).size = (runL p (c :: l)).length := fun p => ⟨runL_le p _, by rw [runL_take], ofL_size _⟩
    split at h
    · rename_i hc
      rw [if_pos hc]
      split at h
      · rw [if_pos (by assumption)]; exact ⟨(hr _).1, .inr ⟨by simp, by simp, (hr _).2⟩⟩
      · rw [if_neg (by assumption)]
        split at h
        · rw [if_pos (by assumption)]; exact ⟨(hr _).1, .inr ⟨by simp, by simp, (hr _).2⟩⟩
        · rw [if_neg (by assumption)]
          split at h
          · rw [if_pos (by assumption)]; exact ⟨(hr _).1, .inr ⟨by simp, by simp, (hr _).2⟩⟩
          · simp at h
    · rename_i hc
      rw [if_neg hc]
      split at h
      · rename_i hd
        rw [if_pos hd]
        split at h
        · simp at h
        · rw [if_neg (by assumption)]; exact ⟨(hr _).1, .inr ⟨by simp, by simp, (hr _).2⟩⟩
      · rename_i hd
        rw [if_neg hd]
        split at h
        · rename_i hq
          rw [if_pos hq]
          cases hl : litL l.length l [] with
          | none => rw [hl] at h; simp at h
          | some x =>
            obtain ⟨t, n⟩ := x
            have hll := litL_len_s _ hl
            have hsz : (strOfNums t).size = t.length := by simp [strOfNums, ByteArray.size]
            refine ⟨by simp; exact hll.2, .inl ⟨rfl, ?_, ?_⟩⟩
            · have : c = 34 := UInt8.toNat_inj.1 hq
              rw [this]; rfl
            · show (strOfNums t).size + 2 ≤ n + 1
              rw [hsz]; have := hll.1; simp at this; omega
        · rename_i hq
          rw [if_neg hq]
          split at h
          · simp at h
          · rw [if_neg (by assumption)]
            refine ⟨?_, .inr ⟨by simp, by simp, symbol_take_s _, rfl⟩⟩
            have := symbolOf_len (ofL (c :: l))
            rw [ofL_size] at this; exact this
end
section
open Go.RowKit Go.Proofs.YtmndicibakaceaaDoorW.PrintWords Go.Proofs.YtmndicibakaceaaDoorW.PrintLast Go.Proofs.YtmndicibakaceaaDoorW.PrintMore
def isBlank (c : UInt8) : Bool := c == 32 || c == 9 || c == 10 || c == 13
/-- nothing, or something that begins with a blank. -/
def BlankHead (R : List UInt8) : Prop := ∀ c, R.head? = some c → isBlank c = true
theorem blank_cases {c : UInt8} (h : isBlank c = true) : c = 32 ∨ c = 9 ∨ c = 10 ∨ c = 13 := by
  unfold isBlank at h
  simpa [or_assoc] using h
theorem blank_word {c : UInt8} (h : isBlank c = true) : isWord (c.toNat : Int) = false ∧ isDigit (c.toNat : Int) = false := by
  rcases blank_cases h with rfl | rfl | rfl | rfl <;> exact ⟨by decide, by decide⟩
theorem runL_app {p : Int → Bool} {R : List UInt8} (hR : ∀ c, R.head? = some c → p (c.toNat : Int) = false) : ∀ M : List UInt8, runL p (M ++ R) = runL p M
  | [] => by
    cases R with
    | nil => rfl
    | cons c r => rw [List.nil_append, runL_cons_neg (hR c rfl)]; rfl
  | c :: m => by
    cases hp : p (c.toNat : Int)
    · rw [List.cons_append, runL_cons_neg hp, runL_cons_neg hp]
    · rw [List.cons_append, runL_cons_pos hp, runL_cons_pos hp, runL_app hR m]
theorem prefix_app {x M R : List UInt8} (hx : ∀ c ∈ x, isBlank c = false) (hR : BlankHead R) (h : x.isPrefixOf (M ++ R) = true) : x.isPrefixOf M = true := by
  rw [List.isPrefixOf_iff_prefix] at *
  by_cases hl : x.length ≤ M.length
  · exact List.prefix_of_prefix_length_le h (List.prefix_append M R) hl
  · obtain ⟨q, hq⟩ := h
    have hR2 : R ≠ [] := by
      rintro rfl
      have := congrArg List.length hq
      simp at this; omega
    obtain ⟨c, r, rfl⟩ := List.exists_cons_of_ne_nil hR2
    have hc := hR c rfl
    have hg : (x ++ q)[M.length]? = some c := by rw [hq]; simp
    rw [List.getElem?_append_left (by omega)] at hg
    have := hx c (List.mem_of_getElem? hg)
    rw [this] at hc; cases hc
theorem prefix_app' {x M R : List UInt8} (h : x.isPrefixOf M = true) : x.isPrefixOf (M ++ R) = true := by
  rw [List.isPrefixOf_iff_prefix] at *
  exact h.trans (List.prefix_append M R)
theorem longSyms_clean : ∀ x ∈ longSyms, ∀ c ∈ x.data.toList, isBlank c = false := by
  have h : (longSyms.all fun x => x.data.toList.all fun c => !isBlank c) = true := by kernel_rfl
  intro x hx c hc
  have := List.all_eq_true.1 (List.all_eq_true.1 h x hx) c hc
  simpa using this
theorem find_same {p q : ByteArray → Bool} : ∀ {l : List ByteArray}, (∀ x ∈ l, p x = q x) → l.find? p = l.find? q
  | [], _ => rfl
  | x :: l, h => by
    rw [List.find?_cons, List.find?_cons, h x (List.mem_cons_self ..), find_same fun y hy => h y (List.mem_cons_of_mem _ hy)]
theorem symbol_app {c : UInt8} {m R : List UInt8} (hR : BlankHead R) : symbolOf (ofL (c :: m ++ R)) = symbolOf (ofL (c :: m)) := by
  have hf : longSyms.find? (begins (ofL (c :: m ++ R))) = longSyms.find? (begins (ofL (c :: m))) := find_same fun x hx => by
    rw [begins_list, begins_list]
    cases h : x.data.toList.isPrefixOf (c :: m)
    · rw [Bool.eq_false_iff]
      intro h2
      rw [prefix_app (longSyms_clean x hx) hR h2] at h; cases h
    · exact prefix_app' h
  unfold symbolOf
  rw [hf]
  have hb : bt (ofL (c :: m ++ R)) 0 = bt (ofL (c :: m)) 0 := rfl
  have h1 : 0 < (ofL (c :: m ++ R)).size := by rw [ofL_size]; simp
  have h2 : 0 < (ofL (c :: m)).size := by rw [ofL_size]; simp
  have he : (ofL (c :: m ++ R)).extract 0 1 = (ofL (c :: m)).extract 0 1 := by rw [ext_ofL, ext_ofL, ofL_list, ofL_list]; rfl
  cases longSyms.find? (begins (ofL (c :: m))) with
  | some y => rfl
  | none =>
    simp only
    rw [hb]
    by_cases hq : 0 ≤ Lib.indexByte oneSyms.data.toList (bt (ofL (c :: m)) 0).toNat.toUInt8
    · rw [if_pos ⟨h1, hq⟩, if_pos ⟨h2, hq⟩, he]
    · rw [if_neg (fun h => hq h.2), if_neg (fun h => hq h.2)]
/-- a token without an error that takes the whole list, but a literal, is read before a blank, too. -/
theorem next_blank {M R : List UInt8} (h : (nextL M).2.2.2 = 0) (h4 : (nextL M).1 ≠ 4) (hR : BlankHead R) : nextL (M ++ R) = nextL M := by
  have hW : ∀ c, R.head? = some c → isWord (c.toNat : Int) = false := fun c hc => (blank_word (hR c hc)).1
  have hD : ∀ c, R.head? = some c → isDigit (c.toNat : Int) = false := fun c hc => (blank_word (hR c hc)).2
  match M with
  | [] => simp [nextL] at h
  | c :: m =>
    have e1 : runL isWord (c :: (m ++ R)) = runL isWord (c :: m) := runL_app hW (c :: m)
    have e2 : runL isDigit (c :: (m ++ R)) = runL isDigit (c :: m) := runL_app hD (c :: m)
    have e3 : symbolOf (ofL (c :: (m ++ R))) = symbolOf (ofL (c :: m)) := symbol_app hR
    rw [nextL_cons] at h h4
    rw [List.cons_append, nextL_cons, nextL_cons, e1, e2, e3]
    by_cases hc : (isSmall c.toNat || isCapital c.toNat) = true
    · rw [if_pos hc, if_pos hc]
    · rw [if_neg hc] at h h4
      rw [if_neg hc, if_neg hc]
      by_cases hd : isDigit c.toNat = true
      · rw [if_pos hd] at h
        rw [if_pos hd, if_pos hd]
        split at h
        · simp at h
        · rename_i hn
          rw [if_neg hn, if_neg]
          rintro (h1 | h1 | h1)
          · exact hn (.inl h1)
          · exact hn (.inr (.inl h1))
          · refine hn (.inr (.inr ?_))
            have hle := runL_le isDigit (c :: m)
            rw [show c :: (m ++ R) = (c :: m) ++ R from rfl, List.drop_append_of_le_length hle] at h1
            cases hx : (c :: m).drop (runL isDigit (c :: m)).length with
            | nil =>
              rw [hx, List.nil_append] at h1
              cases hr : R.head? with
              | none => rw [hr] at h1; simp at h1
              | some d => rw [hr] at h1; simp [hW d hr] at h1
            | cons d t => rw [hx] at h1; exact h1
      · rw [if_neg hd] at h h4
        rw [if_neg hd, if_neg hd]
        by_cases hq : c.toNat = 34
        · rw [if_pos hq] at h h4
          cases hl : litL m.length m [] with
          | none => rw [hl] at h; simp at h
          | some x => rw [hl] at h4; simp at h4
        · rw [if_neg hq, if_neg hq]
/-- the source of a token. -/
def wrL (t : S36) : List UInt8 := if t.f0 = 4 then quoteL t.f1.data.toList else t.f1.data.toList
def ktOf (t : S36) : Int × ByteArray := (t.f0, t.f1)
/-- a token whose source is read as this token before a blank. -/
def TokOK (t : S36) : Prop := ∀ R, BlankHead R → nextL (wrL t ++ R) = (t.f0, t.f1, (wrL t).length, 0) ∧ skipN false (wrL t ++ R) = 0 ∧ wrL t ≠ []
theorem tok_again {L : List UInt8} (o : Int) (h : (nextL L).2.2.2 = 0) (hs : skipN false L = 0) : TokOK ⟨(nextL L).1, (nextL L).2.1, o⟩ ∧ (wrL ⟨(nextL L).1, (nextL L).2.1, o⟩).length ≤ 4 * (nextL L).2.2.1 := by
  obtain ⟨hn1, hn2⟩ := next_pos h
  obtain ⟨hle, hsh⟩ := next_shape_s h
  rcases hsh with ⟨h4, hh, hz⟩ | ⟨h4, h0, hx, hxs⟩
  · have hw : wrL ⟨(nextL L).1, (nextL L).2.1, o⟩ = quoteL (nextL L).2.1.data.toList := if_pos h4
    constructor
    · intro R hR
      rw [hw, nextL_quote, ofL_of]
      refine ⟨by rw [h4], ?_, by simp [quoteL]⟩
      unfold quoteL
      rw [List.cons_append, skipN_f, if_neg (by simp), if_neg (by decide)]
    · rw [hw, quoteL_len]
      have := (bodyL_len (nextL L).2.1.data.toList).2
      have h2 : (nextL L).2.1.data.toList.length = (nextL L).2.1.size := rfl
      omega
  · have hw : wrL ⟨(nextL L).1, (nextL L).2.1, o⟩ = L.take (nextL L).2.2.1 := by
      unfold wrL; rw [if_neg h4]
      show (nextL L).2.1.data.toList = _
      rw [hx, ofL_list]
    have hcut := next_cut h (Nat.le_refl _)
    have hlen : (L.take (nextL L).2.2.1).length = (nextL L).2.2.1 := by rw [List.length_take]; omega
    constructor
    · intro R hR
      rw [hw, next_blank (by rw [hcut]; exact h) (by rw [hcut]; exact h4) hR, hcut, hlen]
      refine ⟨by rw [← h], ?_, by intro e; rw [e] at hlen; simp at hlen; omega⟩
      obtain ⟨c, l, rfl⟩ := List.exists_cons_of_ne_nil hn2
      generalize hN : (nextL (c :: l)).2.2.1 = N at *
      obtain ⟨N, rfl⟩ : ∃ q, N = q + 1 := ⟨N - 1, by omega⟩
      rw [List.take_succ_cons, List.cons_append]
      rw [skipN_f] at hs ⊢
      by_cases h1 : c = 47 ∧ l.head? = some 47
      · rw [if_pos h1] at hs; omega
      · rw [if_neg h1] at hs
        by_cases h2 : c = 32 ∨ c = 9 ∨ c = 10 ∨ c = 13
        · rw [if_pos h2] at hs; omega
        · rw [if_neg, if_neg h2]
          rintro ⟨h3, h5⟩
          refine h1 ⟨h3, ?_⟩
          cases hl : l.take N with
          | nil =>
            rw [hl, List.nil_append] at h5
            have := hR 47 h5
            exact absurd this (by decide)
          | cons d t =>
            rw [hl] at h5
            exact head_cut (m := N) (by rw [hl]; exact h5)
    · rw [hw, hlen]; omega
def endT (e : Nat) : S36 := ⟨0, ⟨#[]⟩, e⟩
def sumW : List S36 → Nat
  | [] => 0
  | t :: l => (wrL t).length + 20 + sumW l
theorem toks_facts : ∀ (k : Nat) (L : List UInt8) (o : Nat), L.length < k → skipN false L = 0 → (∀ x ∈ toksL k L o, x.2 = 0) →
    ∃ (l : List S36) (e : Nat), (toksL k L o).map (·.1) = l ++ [endT e] ∧ (∀ t ∈ l, TokOK t) ∧ sumW l ≤ 24 * L.length ∧ l.length ≤ L.length
  | 0, L, o, h, _, _ => by omega
  | k + 1, L, o, hk, hs, hz => by
    unfold toksL at hz ⊢
    by_cases hL : L = []
    · rw [if_pos hL]
      exact ⟨[], o, rfl, fun t ht => by simp at ht, Nat.zero_le _, Nat.zero_le _⟩
    · rw [if_neg hL] at hz ⊢
      by_cases h0 : (nextL L).2.2.2 = 0
      · rw [if_pos h0] at hz ⊢
        have hp := next_pos h0
        have hle := (next_shape_s h0).1
        have hskl := skipN_le false (L.drop (nextL L).2.2.1)
        rw [List.length_drop] at hskl
        obtain ⟨l, e, h1, h2, h3, h5⟩ := toks_facts k ((L.drop (nextL L).2.2.1).drop (skipN false (L.drop (nextL L).2.2.1))) (o + (nextL L).2.2.1 + skipN false (L.drop (nextL L).2.2.1))
          (by rw [List.length_drop, List.length_drop]; omega) skip_done (fun x hx => hz x (List.mem_cons_of_mem _ hx))
        rw [List.length_drop, List.length_drop] at h3 h5
        obtain ⟨t1, t2⟩ := tok_again (o : Int) h0 hs
        refine ⟨⟨(nextL L).1, (nextL L).2.1, o⟩ :: l, e, ?_, ?_, ?_, ?_⟩
        · rw [List.map_cons, h1]; rfl
        · intro t ht
          rcases List.mem_cons.1 ht with rfl | ht
          · exact t1
          · exact h2 t ht
        · simp only [sumW]; omega
        · rw [List.length_cons]; omega
      · rw [if_neg h0] at hz
        exact absurd (hz _ (List.mem_singleton.2 rfl)) h0
theorem scan_zero : ∀ (l : List (S36 × Int)) (acc a : List S36) (b : Int), scanToks l acc = (a, b, 0) → ∀ x ∈ l, x.2 = 0
  | [], acc, a, b, _ => fun x hx => by simp at hx
  | (t, r) :: l, acc, a, b, h => by
    rw [scanToks] at h
    by_cases hr : r = 0
    · rw [if_pos hr] at h
      intro x hx
      rcases List.mem_cons.1 hx with rfl | hx
      · exact hr
      · exact scan_zero l _ a b h x hx
    · rw [if_neg hr] at h
      injection h with _ h; injection h with _ h; exact absurd h hr
/-- from a place before blanks on the tokens are kts. -/
def Reads (X : List UInt8) (kts : List (Int × ByteArray)) : Prop := ∀ (k o : Nat), X.length < k → ∃ ts : List S36, toksL k (X.drop (skipN false X)) (o + skipN false X) = ts.map (fun t => (t, (0 : Int))) ∧ ts.map ktOf = kts
theorem reads_end {T : List UInt8} (h : skipN false T = T.length) : Reads T [(0, ⟨#[]⟩)] := by
  intro k o hk
  obtain ⟨k, rfl⟩ : ∃ q, k = q + 1 := ⟨k - 1, by omega⟩
  rw [h, List.drop_length]
  refine ⟨[⟨0, ⟨#[]⟩, (o + T.length : Nat)⟩], ?_, rfl⟩
  unfold toksL; rw [if_pos rfl]; rfl
/-- blanks and comments that a token may stand behind. -/
def IsGap (G : List UInt8) : Prop := BlankHead G ∧ G ≠ [] ∧ ∀ X, skipN false (G ++ X) = G.length + skipN false X
theorem reads_gap {G X : List UInt8} {kts : List (Int × ByteArray)} (hG : IsGap G) (h : Reads X kts) : Reads (G ++ X) kts := by
  intro k o hk
  rw [List.length_append] at hk
  obtain ⟨ts, h1, h2⟩ := h k (o + G.length) (by omega)
  refine ⟨ts, ?_, h2⟩
  rw [hG.2.2 X, ← List.drop_drop, List.drop_left, ← Nat.add_assoc]
  exact h1
theorem reads_tok {t : S36} {R : List UInt8} {kts : List (Int × ByteArray)} (ht : TokOK t) (hR : BlankHead R) (h : Reads R kts) : Reads (wrL t ++ R) (ktOf t :: kts) := by
  intro k o hk
  obtain ⟨h1, h2, h3⟩ := ht R hR
  rw [List.length_append] at hk
  have h3' := List.length_pos_iff.2 h3
  obtain ⟨k, rfl⟩ : ∃ q, k = q + 1 := ⟨k - 1, by omega⟩
  obtain ⟨ts, g1, g2⟩ := h k (o + (wrL t).length) (by omega)
  refine ⟨⟨t.f0, t.f1, o⟩ :: ts, ?_, by rw [List.map_cons, g2]; rfl⟩
  rw [h2]
  show toksL (k + 1) (wrL t ++ R) o = _
  unfold toksL
  rw [if_neg (by simp [h3]), h1, if_pos rfl]
  simp only
  rw [List.drop_left, g1]; rfl
def gapL : Nat → List UInt8
  | 0 => [32]
  | 1 => [9]
  | 2 => [13, 10]
  | 3 => [32, 47, 47, 32, 34, 32, 47, 47, 32, 120, 10]
  | _ => [32, 47, 47, 10, 10]
theorem gap_is (n : Nat) (hn : n < 5) : IsGap (gapL n) := by
  match n, hn with
  | 0, _ => exact ⟨fun c h => by injection h with h; subst h; rfl, by simp [gapL], fun X => by simp [gapL, skipN_f]⟩
  | 1, _ => exact ⟨fun c h => by injection h with h; subst h; rfl, by simp [gapL], fun X => by simp [gapL, skipN_f]⟩
  | 2, _ => exact ⟨fun c h => by injection h with h; subst h; rfl, by simp [gapL], fun X => by simp [gapL, skipN_f]; omega⟩
  | 3, _ => exact ⟨fun c h => by injection h with h; subst h; rfl, by simp [gapL], fun X => by simp [gapL, skipN_f, skipN_t]; omega⟩
  | 4, _ => exact ⟨fun c h => by injection h with h; subst h; rfl, by simp [gapL], fun X => by simp [gapL, skipN_f, skipN_t]; omega⟩
theorem gap_len (n : Nat) : (gapL n).length ≤ 11 := by
  match n with
  | 0 => decide
  | 1 => decide
  | 2 => decide
  | 3 => decide
  | _ + 4 => exact (show ([32, 47, 47, 10, 10] : List UInt8).length ≤ 11 by decide)
def gapNo (ks : List UInt8) (i : Nat) : Nat := match ks[i]? with | some c => c.toNat % 5 | none => 0
theorem gapNo_lt (ks : List UInt8) (i : Nat) : gapNo ks i < 5 := by
  unfold gapNo; split <;> omega
def plainL : List S36 → List UInt8
  | [] => []
  | t :: l => wrL t ++ ([32] ++ plainL l)
def otherL (ks : List UInt8) : Nat → List S36 → List UInt8
  | _, [] => []
  | i, t :: l => gapL (gapNo ks i) ++ (wrL t ++ otherL ks (i + 1) l)
theorem plain_snoc (t : S36) : ∀ l, plainL (l ++ [t]) = plainL l ++ (wrL t ++ [32])
  | [] => by simp [plainL]
  | u :: l => by rw [List.cons_append, plainL, plainL, plain_snoc t l]; simp
theorem other_snoc (ks : List UInt8) (t : S36) : ∀ (i : Nat) l, otherL ks i (l ++ [t]) = otherL ks i l ++ (gapL (gapNo ks (i + l.length)) ++ wrL t)
  | i, [] => by simp [otherL]
  | i, u :: l => by rw [List.cons_append, otherL, otherL, other_snoc ks t (i + 1) l, List.length_cons, show i + 1 + l.length = i + (l.length + 1) by omega]; simp
theorem blank_app {G X : List UInt8} (h : BlankHead G) (hn : G ≠ []) : BlankHead (G ++ X) := by
  obtain ⟨c, g, rfl⟩ := List.exists_cons_of_ne_nil hn
  intro d hd
  exact h d hd
theorem reads_plain (e : Nat) : ∀ l : List S36, (∀ t ∈ l, TokOK t) → Reads (plainL (l ++ [endT e])) ((l ++ [endT e]).map ktOf)
  | [], _ => reads_end (T := [32]) rfl
  | t :: l, h => by
    have ih := reads_plain e l (fun x hx => h x (List.mem_cons_of_mem _ hx))
    rw [List.cons_append, plainL, List.map_cons]
    exact reads_tok (h t (List.mem_cons_self ..)) (blank_app (gap_is 0 (by decide)).1 (by simp)) (reads_gap (gap_is 0 (by decide)) ih)
theorem reads_other (ks : List UInt8) (e : Nat) : ∀ (l : List S36) (i : Nat), (∀ t ∈ l, TokOK t) → Reads (otherL ks i (l ++ [endT e])) ((l ++ [endT e]).map ktOf) ∧ BlankHead (otherL ks i (l ++ [endT e]))
  | [], i, _ => by
    have hg := gap_is _ (gapNo_lt ks i)
    have e1 : otherL ks i ([] ++ [endT e]) = gapL (gapNo ks i) := by simp [otherL, wrL, endT]
    rw [e1]
    refine ⟨reads_end ?_, hg.1⟩
    have := hg.2.2 []
    rw [List.append_nil] at this
    rw [this]; rfl
  | t :: l, i, h => by
    obtain ⟨ih, ib⟩ := reads_other ks e l (i + 1) (fun x hx => h x (List.mem_cons_of_mem _ hx))
    have hg := gap_is _ (gapNo_lt ks i)
    rw [List.cons_append, otherL, List.map_cons]
    exact ⟨reads_gap hg (reads_tok (h t (List.mem_cons_self ..)) ib ih), blank_app hg.1 hg.2.1⟩
theorem plain_len : ∀ l : List S36, (plainL l).length ≤ sumW l
  | [] => Nat.le_refl _
  | t :: l => by have := plain_len l; simp only [plainL, sumW, List.length_append, List.length_cons, List.length_nil]; omega
theorem other_len (ks : List UInt8) : ∀ (l : List S36) (i : Nat), (otherL ks i l).length ≤ sumW l
  | [], _ => Nat.le_refl _
  | t :: l, i => by have := other_len ks l (i + 1); have := gap_len (gapNo ks i); simp only [otherL, sumW, List.length_append]; omega
theorem sumW_snoc (t : S36) : ∀ l, sumW (l ++ [t]) = sumW l + ((wrL t).length + 20)
  | [] => by simp [sumW]
  | u :: l => by rw [List.cons_append, sumW, sumW, sumW_snoc t l]; omega
theorem lex_reads {X : List UInt8} {kts : List (Int × ByteArray)} (hX : X.length ≤ 60000) (h : Reads X kts) : ∃ l, lexer_Lex.f (ofL X) = some (l, 0, 0) ∧ l.map ktOf = kts := by
  obtain ⟨ts, h1, h2⟩ := h (X.length + 1) 0 (by omega)
  refine ⟨ts, ?_, h2⟩
  rw [lex_some _ (by rw [ofL_size]; exact hX), ofL_list, ofL_size]
  rw [Nat.zero_add] at h1
  rw [h1, scan_ok _ _ (fun x hx => by obtain ⟨t, _, rfl⟩ := List.mem_map.1 hx; rfl), List.map_map, show ((fun x : S36 × Int => x.1) ∘ fun t => (t, (0 : Int))) = id from rfl, List.map_id, List.nil_append]
/-- what the lexer answers at tokens that are written anew. -/
theorem lex_again (s : ByteArray) (hs : s.size ≤ 1000) (l : List S36) (a : Int) (h : lexer_Lex.f s = some (l, a, 0)) (ks : List UInt8) :
    (∃ l1, lexer_Lex.f (ofL (plainL l)) = some (l1, 0, 0) ∧ l1.map ktOf = l.map ktOf) ∧ (∃ l2, lexer_Lex.f (ofL (otherL ks 0 l)) = some (l2, 0, 0) ∧ l2.map ktOf = l.map ktOf) ∧ sumW l ≤ 24020 ∧ l.length ≤ 1001 ∧ l ≠ [] := by
  rw [lex_some s (by omega)] at h
  have h := Option.some.inj h
  have hz := scan_zero _ _ _ _ h
  have hlen : s.data.toList.length = s.size := rfl
  have hd : (s.data.toList.drop (skipN false s.data.toList)).length ≤ s.size := by rw [List.length_drop]; omega
  obtain ⟨l', e, h1, h2, h3, h5⟩ := toks_facts _ _ _ (by omega) skip_done hz
  rw [scan_ok _ _ hz, h1, List.nil_append] at h
  injection h with h _
  subst h
  have hsum : sumW (l' ++ [endT e]) ≤ 24020 := by
    rw [sumW_snoc]
    have : (wrL (endT e)).length = 0 := rfl
    omega
  have p1 := plain_len (l' ++ [endT e])
  have p2 := other_len ks (l' ++ [endT e]) 0
  exact ⟨lex_reads (by omega) (reads_plain e l' h2), lex_reads (by omega) (reads_other ks e l' 0 h2).1, hsum, by rw [List.length_append, List.length_singleton]; omega, by simp⟩
end
end Go.Proofs.YtmndicibakaceaaDoor.Pr
