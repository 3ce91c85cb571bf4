/- The contract of lexer.next at every offset, and where a token ends. -/
import Derived.Test.YtmndicibakaceaaDoorExtN
import Derived.Test.YtmndicibakaceaaDoorExtNd
import Derived.Test.YtmndicibakaceaaDoorExtNt
import Derived.Test.YtmndicibakaceaaDoorExtNs
import Derived.Lib.Bytes2
namespace Go.Proofs.YtmndicibakaceaaDoor.Pr
open Go.RowKit Go.Proofs.YtmndicibakaceaaDoorW.PrintWords Go.Proofs.YtmndicibakaceaaDoorW.PrintLast Go.Proofs.YtmndicibakaceaaDoorW.PrintMore
theorem next_calls (s : ByteArray) (i : Nat) (w : World) (hG : Gd w) (hs : s.size ≤ 1000000000) (h1 : i < s.size) (t : S36) (e r : Int) (ht : nextTok s i = (t, e, r)) :
    Calls Tryd.prog 62 #[.string s, .int .i64 i] w fun e' w' => e' = .returned (.tuple #[.agg #[.int .i64 t.f0, .string t.f1, .int .i64 t.f2], .int .i64 e, .int .i64 r]) ∧ Below w.heap.size w w' := by
  by_cases hc : (isSmall (bt s i) || isCapital (bt s i)) = true
  · exact next_word s i w hG hs h1 hc t e r ht
  · have hc' : isSmall (bt s i) = false ∧ isCapital (bt s i) = false := by
      cases h1 : isSmall (bt s i) <;> cases h2 : isCapital (bt s i) <;> simp_all
    cases h3 : isDigit (bt s i) with
    | true => exact next_digit s i w hs h1 hc'.1 hc'.2 h3 t e r ht
    | false =>
      by_cases h4 : bt s i = 34
      · exact next_text s i w hs h1 hc'.1 hc'.2 h3 h4 t e r ht
      · exact next_symbol s i w hs h1 hc'.1 hc'.2 h3 h4 t e r ht
theorem litLoop_end (s : ByteArray) : ∀ (n i : Nat) (acc l : List Int) (e : Nat), i + n = s.size → litLoop s n i acc = some (l, e) → i < e ∧ e ≤ s.size := by
  intro n
  induction n using Nat.strongRecOn with
  | _ n ih =>
    intro i acc l e hn h
    cases n with
    | zero => simp [litLoop] at h
    | succ n =>
      unfold litLoop at h
      split at h
      · injection h with h; injection h with _ h; omega
      · split at h
        · cases h
        · split at h
          · have := ih n (by omega) (i + 1) _ _ _ (by omega) h; omega
          · split at h
            · split at h
              · have := ih (n - 1) (by omega) (i + 2) _ _ _ (by omega) h; omega
              · split at h
                · have := ih (n - 1) (by omega) (i + 2) _ _ _ (by omega) h; omega
                · split at h
                  · rename_i hx
                    have := ih (n - 3) (by omega) (i + 4) _ _ _ (by omega) h; omega
                  · cases h
            · cases h
theorem runEnd_gt (p : Int → Bool) (s : ByteArray) (i : Nat) (h : i < s.size) (hp : p (bt s i) = true) : i < runEnd p s i := by
  have h1 := runEnd_cast p s i
  rw [spanTo_yes h hp] at h1
  have h2 := (spanTo_ge p s (s.size - (i + 1)) ((i + 1 : Nat) : Int)).1
  omega
theorem begins_len {s x : ByteArray} (h : begins s x = true) : x.size ≤ s.size := Lib.hasPrefix_le (s := s.data.toList) (p := x.data.toList) h
theorem symbolOf_len (s : ByteArray) : (symbolOf s).size ≤ s.size := by
  unfold symbolOf
  split
  · rename_i x hx
    exact begins_len (by have := List.find?_some hx; simpa using this)
  · split
    · rw [ByteArray.size_extract]; omega
    · exact Nat.zero_le _
theorem nextTok_end (s : ByteArray) (i : Nat) (h : i < s.size) (t : S36) (e : Int) (ht : nextTok s i = (t, e, 0)) : ∃ n : Nat, e = n ∧ i < n ∧ n ≤ s.size := by
  unfold nextTok at ht
  have hw : (isSmall (bt s i) || isCapital (bt s i)) = true → i < runEnd isWord s i := fun hc => runEnd_gt isWord s i h (by
    unfold isWord; rw [← Bool.or_assoc, hc]; rfl)
  have hl := runEnd_le isWord s i (by omega)
  split at ht
  · rename_i hc
    have hg := hw (by simpa using hc)
    split at ht
    · injection ht with _ ht; injection ht with h1 h2; exact ⟨_, h1.symm, hg, hl⟩
    · split at ht
      · injection ht with _ ht; injection ht with h1 h2; exact ⟨_, h1.symm, hg, hl⟩
      · split at ht
        · injection ht with _ ht; injection ht with h1 h2; exact ⟨_, h1.symm, hg, hl⟩
        · injection ht with _ ht; injection ht with h1 h2; exact absurd h2 (by decide)
  · split at ht
    · rename_i hd
      have hg := runEnd_gt isDigit s i h hd
      have hl := runEnd_le isDigit s i (by omega)
      split at ht
      · injection ht with _ ht; injection ht with h1 h2; exact absurd h2 (by decide)
      · injection ht with _ ht; injection ht with h1 h2; exact ⟨_, h1.symm, hg, hl⟩
    · split at ht
      · cases hq : litLoop s (s.size - (i + 1)) (i + 1) [] with
        | none =>
          rw [hq] at ht
          injection ht with _ ht; injection ht with h1 h2; exact absurd h2 (by decide)
        | some z =>
          obtain ⟨l, q⟩ := z
          rw [hq] at ht
          have := litLoop_end s _ _ _ _ _ (by omega) hq
          injection ht with _ ht; injection ht with h1 h2; exact ⟨q, h1.symm, by omega, by omega⟩
      · have hy := symbolOf_len (s.extract i s.size)
        have hz := ext_size s i s.size (Nat.le_refl _)
        generalize symbolOf (s.extract i s.size) = y at *
        split at ht
        · injection ht with _ ht; injection ht with h1 h2; exact absurd h2 (by decide)
        · injection ht with _ ht; injection ht with h1 h2; exact ⟨i + y.size, by rw [← h1]; simp, by omega, by omega⟩
end Go.Proofs.YtmndicibakaceaaDoor.Pr
