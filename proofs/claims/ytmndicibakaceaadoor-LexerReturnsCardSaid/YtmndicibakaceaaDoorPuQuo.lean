/- The literal of a string, told of lists, and what the lexer answers at it. -/
import Derived.Test.YtmndicibakaceaaDoorPuLex
namespace Go.Proofs.YtmndicibakaceaaDoor.Pr
open Go.RowKit Go.Proofs.YtmndicibakaceaaDoorW.PrintWords Go.Proofs.YtmndicibakaceaaDoorW.PrintLast Go.Proofs.YtmndicibakaceaaDoorW.PrintMore
/-- what stands for a byte in a literal. -/
def qL (c : UInt8) : List UInt8 := (qByte (c.toNat : Int)).map fun n => UInt8.ofNat n.toNat
/-- a literal's bytes between its quotes. -/
def bodyL (l : List UInt8) : List UInt8 := l.flatMap qL
def quoteL (l : List UInt8) : List UInt8 := 34 :: (bodyL l ++ [34])
theorem bodyL_cons (c : UInt8) (l : List UInt8) : bodyL (c :: l) = qL c ++ bodyL l := by simp [bodyL]
theorem charL_app {l r : List UInt8} {v : Int} {w : Nat} (h : charL l = some (v, w)) : charL (l ++ r) = some (v, w) := by
  match l, h with
  | [], h => cases h
  | c :: l1, h =>
    rw [List.cons_append]
    rw [charL_cons] at h ⊢
    by_cases h1 : c.toNat = 34 ∨ c.toNat < 32
    · rw [if_pos h1] at h; cases h
    · rw [if_neg h1] at h ⊢
      by_cases h2 : c.toNat ≠ 92
      · rw [if_pos h2] at h ⊢; exact h
      · rw [if_neg h2] at h ⊢
        match l1, h with
        | [], h => cases h
        | d :: l2, h =>
          rw [List.cons_append]
          simp only at h ⊢
          by_cases h3 : d.toNat = 34 ∨ d.toNat = 92
          · rw [if_pos h3] at h ⊢; exact h
          · rw [if_neg h3] at h ⊢
            by_cases h4 : d.toNat = 110
            · rw [if_pos h4] at h ⊢; exact h
            · rw [if_neg h4] at h ⊢
              match l2, h with
              | [], h => cases h
              | [_], h => cases h
              | e :: f :: l3, h => exact h
def qOk (c : UInt8) : Bool := decide (charL (qL c) = some ((c.toNat : Int), (qL c).length)) && (decide ((qL c).head? ≠ some 34) && ((qL c).all (fun x => decide (32 ≤ x.toNat ∧ x.toNat ≤ 126)) && (decide ((qL c).length ≤ 4) && decide (1 ≤ (qL c).length))))
set_option maxRecDepth 100000 in
theorem qOk_all : ((List.range 256).all fun n => qOk (UInt8.ofNat n)) = true := by kernel_rfl
theorem qL_char (c : UInt8) : charL (qL c) = some ((c.toNat : Int), (qL c).length) ∧ (qL c).head? ≠ some 34 ∧ (∀ x ∈ qL c, 32 ≤ x.toNat ∧ x.toNat ≤ 126) ∧ (qL c).length ≤ 4 ∧ 1 ≤ (qL c).length := by
  have h := List.all_eq_true.1 qOk_all c.toNat (List.mem_range.2 c.toNat_lt)
  rw [UInt8.ofNat_toNat] at h
  unfold qOk at h
  simp only [Bool.and_eq_true, decide_eq_true_eq, List.all_eq_true] at h
  exact ⟨h.1, h.2.1, h.2.2.1, h.2.2.2⟩
theorem bodyL_len (l : List UInt8) : l.length ≤ (bodyL l).length ∧ (bodyL l).length ≤ 4 * l.length := by
  induction l with
  | nil => exact ⟨Nat.le_refl _, Nat.le_refl _⟩
  | cons c l ih =>
    have := qL_char c
    rw [bodyL_cons, List.length_append, List.length_cons]; omega
theorem bodyL_printable (l : List UInt8) : ∀ x ∈ bodyL l, 32 ≤ x.toNat ∧ x.toNat ≤ 126 := by
  intro x hx
  obtain ⟨c, _, hc⟩ := List.mem_flatMap.1 hx
  exact (qL_char c).2.2.1 x hc
theorem quoteL_printable (l : List UInt8) : ∀ x ∈ quoteL l, 32 ≤ x.toNat ∧ x.toNat ≤ 126 := by
  intro x hx
  rcases List.mem_cons.1 hx with rfl | hx
  · decide
  · rcases List.mem_append.1 hx with hx | hx
    · exact bodyL_printable l x hx
    · obtain rfl := List.mem_singleton.1 hx; decide
theorem quoteL_len (l : List UInt8) : (quoteL l).length = (bodyL l).length + 2 := by simp [quoteL]
theorem litL_quote : ∀ (l r : List UInt8) (acc : List Int) (k : Nat), l.length < k → litL k (bodyL l ++ 34 :: r) acc = some (acc ++ l.map (fun c => (c.toNat : Int)), (bodyL l).length + 1)
  | [], r, acc, k, hk => by
    obtain ⟨k, rfl⟩ : ∃ q, k = q + 1 := ⟨k - 1, by omega⟩
    unfold litL
    simp [bodyL]
  | c :: l, r, acc, k, hk => by
    obtain ⟨k, rfl⟩ : ∃ q, k = q + 1 := ⟨k - 1, by omega⟩
    have hq := qL_char c
    have hne : qL c ≠ [] := by intro e; rw [e] at hq; exact absurd hq.2.2.2.2 (by decide)
    have hh : (qL c ++ (bodyL l ++ 34 :: r)).head? = (qL c).head? := by
      obtain ⟨x, t, e⟩ := List.exists_cons_of_ne_nil hne
      rw [e]; rfl
    have ih := litL_quote l r (acc ++ [(c.toNat : Int)]) k (by rw [List.length_cons] at hk; omega)
    unfold litL
    rw [bodyL_cons, List.append_assoc, hh, if_neg hq.2.1, charL_app hq.1, Option.bind_some]
    simp only
    rw [List.drop_left, ih]
    simp only [Option.map_some, List.map_cons, List.append_assoc, List.singleton_append, List.length_append, Option.some.injEq, Prod.mk.injEq, true_and]
    omega
theorem strOfNums_toNat (l : List UInt8) : strOfNums (l.map fun c => (c.toNat : Int)) = ofL l := by
  unfold strOfNums ofL
  rw [List.map_map]
  congr 2
  conv => rhs; rw [← List.map_id l]
  refine List.map_congr_left fun c _ => ?_
  simp
/-- a literal is one token. -/
theorem nextL_quote (l r : List UInt8) : nextL (quoteL l ++ r) = (4, ofL l, (quoteL l).length, 0) := by
  have hl := bodyL_len l
  have h := litL_quote l r [] (bodyL l ++ 34 :: r).length (by rw [List.length_append, List.length_cons]; omega)
  unfold quoteL
  rw [List.cons_append, nextL_cons, if_neg (by decide), if_neg (by decide), if_pos (by decide), List.append_assoc, List.singleton_append, h]
  simp only [List.nil_append, strOfNums_toNat]
  simp
theorem qUpto_list (s : ByteArray) : ∀ k, k ≤ s.size → (qUpto s k).map (fun n => UInt8.ofNat n.toNat) = 34 :: bodyL (s.data.toList.take k)
  | 0, _ => rfl
  | k + 1, h => by
    have ih := qUpto_list s k (by omega)
    obtain ⟨c, l, hd, hb, hl⟩ := drop_cons (s := s) (i := k) (by omega)
    have ht : s.data.toList.take (k + 1) = s.data.toList.take k ++ [c] := by
      rw [List.take_add_one, ← List.head?_drop, hd]; rfl
    rw [qUpto, List.map_append, ih, ht, hb]
    simp [bodyL, qL]
theorem quote_list (s : ByteArray) : strOfNums (quoteI s) = ofL (quoteL s.data.toList) := by
  have h := qUpto_list s s.size (Nat.le_refl _)
  rw [List.take_of_length_le (show s.data.toList.length ≤ s.size from Nat.le_refl _)] at h
  unfold strOfNums ofL quoteI quoteL
  rw [List.map_append, h]
  rfl
theorem Quote_some (s : ByteArray) (hs : s.size ≤ 1000000000) : lexer_Quote.f s = some (ofL (quoteL s.data.toList)) := by
  unfold lexer_Quote.f
  rw [if_pos hs, quote_list]
end Go.Proofs.YtmndicibakaceaaDoor.Pr
