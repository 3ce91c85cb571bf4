/- Keywords: a word is between blanks in the line of the keywords just where it is one of them; names and types against the reference. | What IsName and IsType answer, of the program and of the reference: the same, told of lists. -/
import Derived.Test.YtmndicibakaceaaDoorPuLex
import Derived.Test.YtmndicibakaceaaDoorPr11
import Derived.Test.YtmndicibakaceaaDoorPr12
namespace Go.Proofs.YtmndicibakaceaaDoor.Pr
section
open Go.RowKit Go.Proofs.YtmndicibakaceaaDoorW.PrintWords Go.Proofs.YtmndicibakaceaaDoorW.PrintLast Go.Proofs.YtmndicibakaceaaDoorW.PrintMore
theorem contains_cons (b : UInt8) (l p : List UInt8) : Lib.contains (b :: l) p = (p.isPrefixOf (b :: l) || Lib.contains l p) := by
  have h := Lib.index_ge l p
  unfold Lib.contains
  rw [Lib.index]
  by_cases hp : p.isPrefixOf (b :: l) = true
  · rw [if_pos hp, hp]; rfl
  · rw [if_neg hp, Bool.eq_false_iff.2 hp, Bool.false_or]
    by_cases h1 : Lib.index l p = -1
    · rw [if_pos (by rw [h1]; rfl), h1]
    · rw [if_neg (by simpa using h1)]
      rw [decide_eq_true (show 0 ≤ Lib.index l p + 1 by omega), decide_eq_true (show 0 ≤ Lib.index l p by omega)]
theorem contains_skip {q l : List UInt8} : ∀ {w : List UInt8}, (∀ c ∈ w, c ≠ 32) → Lib.contains (w ++ l) (32 :: q) = Lib.contains l (32 :: q)
  | [], _ => rfl
  | c :: w, h => by
    rw [List.cons_append, contains_cons, contains_skip (fun x hx => h x (List.mem_cons_of_mem _ hx))]
    have hc : ((32 : UInt8) == c) = false := by
      rw [beq_eq_false_iff_ne]; exact fun e => h c (List.mem_cons_self ..) e.symm
    rw [List.isPrefixOf, hc]; rfl
theorem prefix_word : ∀ {s w l : List UInt8}, (∀ c ∈ s, c ≠ 32) → (∀ c ∈ w, c ≠ 32) → (s ++ [32]).isPrefixOf (w ++ 32 :: l) = decide (s = w)
  | [], [], l, _, _ => by simp [List.isPrefixOf]
  | [], c :: w, l, _, hw => by
    have hc : ((32 : UInt8) == c) = false := by
      rw [beq_eq_false_iff_ne]; exact fun e => hw c (List.mem_cons_self ..) e.symm
    simp [List.isPrefixOf, hc]
  | c :: s, [], l, hs, _ => by
    have hc : (c == (32 : UInt8)) = false := by
      rw [beq_eq_false_iff_ne]; exact hs c (List.mem_cons_self ..)
    simp [List.isPrefixOf, hc]
  | c :: s, d :: w, l, hs, hw => by
    have ih := prefix_word (l := l) (fun x hx => hs x (List.mem_cons_of_mem _ hx)) (fun x hx => hw x (List.mem_cons_of_mem _ hx))
    rw [List.cons_append, List.cons_append, List.isPrefixOf, ih]
    by_cases hcd : c = d
    · subst hcd; simp
    · simp [hcd]
theorem contains_words {s : List UInt8} (hs : ∀ c ∈ s, c ≠ 32) : ∀ (ws : List (List UInt8)), (∀ w ∈ ws, ∀ c ∈ w, c ≠ 32) → Lib.contains (ws.flatMap (fun w => 32 :: w) ++ [32]) (32 :: (s ++ [32])) = decide (s ∈ ws)
  | [], _ => by
    rw [List.flatMap_nil, List.nil_append, contains_cons]
    have h1 : (32 :: (s ++ [32]) : List UInt8).isPrefixOf [32] = false := by
      cases s <;> simp [List.isPrefixOf]
    rw [h1]; rfl
  | w :: ws, hw => by
    have ih := contains_words hs ws (fun x hx => hw x (List.mem_cons_of_mem _ hx))
    obtain ⟨r, hr⟩ : ∃ r, ws.flatMap (fun w => 32 :: w) ++ [32] = (32 : UInt8) :: r := by
      cases ws with
      | nil => exact ⟨[], rfl⟩
      | cons x ws => exact ⟨_, rfl⟩
    rw [List.flatMap_cons, List.append_assoc, hr, List.cons_append, contains_cons, contains_skip (hw w (List.mem_cons_self ..)), ← hr, ih, hr]
    rw [List.isPrefixOf, prefix_word hs (hw w (List.mem_cons_self ..))]
    simp [Bool.decide_or]
theorem has_l0 (xs : List ByteArray) (s : ByteArray) (hx : xs.length ≤ 1000) : ∀ (k j : Nat), xs.length - j ≤ k → j ≤ xs.length → modcertref03_Has.l0 (k + 1) xs s (j : Int) = some (decide (s.data.toList ∈ (xs.drop j).map (·.data.toList)))
  | k, j, hk, hj => by
    rw [modcertref03_Has.l0]
    by_cases h : j < xs.length
    · rw [if_pos (by omega), if_pos (by omega)]
      have hd := List.drop_eq_getElem_cons h
      have hr : rdOf ByteArray.empty xs (j : Int) = xs[j] := by simp [rdOf, h]
      rw [hr, hd, List.map_cons]
      obtain ⟨k, rfl⟩ : ∃ q, k = q + 1 := ⟨k - 1, by omega⟩
      rw [Lib.toList_data, Lib.toList_data]
      by_cases he : xs[j].data.toList = s.data.toList
      · rw [if_pos he, decide_eq_true (List.mem_cons.2 (.inl he.symm))]
      · rw [if_neg he, wr64 (by omega), show (j : Int) + 1 = ((j + 1 : Nat) : Int) by omega, has_l0 xs s hx k (j + 1) (by omega) (by omega)]
        congr 1
        rw [decide_eq_decide, List.mem_cons]
        exact ⟨.inr, fun h => h.elim (fun h => absurd h.symm he) id⟩
    · rw [if_neg (by omega), List.drop_eq_nil_of_le (by omega)]; simp
/-- the keywords, as the reference has them. -/
def kwWords : List (List UInt8) := (modcertref03_Keywords.f.getD []).map (·.data.toList)
set_option maxRecDepth 100000 in
theorem kwList_words : kwList = kwWords.flatMap (fun w => 32 :: w) ++ [32] := by kernel_rfl
set_option maxRecDepth 100000 in
theorem kwWords_clean : ∀ w ∈ kwWords, ∀ c ∈ w, c ≠ 32 := by
  have h : (kwWords.all fun w => w.all fun c => c != 32) = true := by kernel_rfl
  intro w hw c hc
  have h1 := List.all_eq_true.1 (List.all_eq_true.1 h w hw) c hc
  simpa using h1
theorem kwB_words (s : ByteArray) (hs : ∀ c ∈ s.data.toList, c ≠ 32) : kwB s = decide (s.data.toList ∈ kwWords) := by
  unfold kwB; rw [kwList_words]; exact contains_words hs kwWords kwWords_clean
theorem ref_small (c : Int) : modcertref03_small.f c = some (isSmall c) := by unfold modcertref03_small.f isSmall; split <;> simp_all <;> omega
theorem ref_capital (c : Int) : modcertref03_capital.f c = some (isCapital c) := by unfold modcertref03_capital.f isCapital; split <;> simp_all <;> omega
theorem ref_digit (c : Int) : modcertref03_digit.f c = some (isDigit c) := by unfold modcertref03_digit.f isDigit; split <;> simp_all <;> omega
theorem ref_word (c : Int) : modcertref03_word.f c = some (isWord c) := by
  unfold modcertref03_word.f isWord
  rw [ref_small, Option.bind_some, ref_capital, ref_digit]
  cases isSmall c <;> cases isCapital c <;> cases isDigit c <;> simp
theorem words_l0 (s : ByteArray) (hs : s.size ≤ 1000000000) : ∀ (k j : Nat), s.size - j ≤ k → j ≤ s.size → modcertref03_words.l0 (k + 1) s (j : Int) = some ((s.data.toList.drop j).all fun c => isWord c.toNat)
  | k, j, hk, hj => by
    rw [modcertref03_words.l0]
    by_cases h : j < s.size
    · obtain ⟨c, l, hd, hb, hl⟩ := drop_cons h
      rw [if_pos (by omega), if_pos (by omega), hb, ref_word, Option.bind_some, hd, List.all_cons]
      obtain ⟨k, rfl⟩ : ∃ q, k = q + 1 := ⟨k - 1, by omega⟩
      cases hw : isWord c.toNat
      · rw [if_neg (by simp)]; rfl
      · rw [if_pos rfl, wr64 (by omega), show (j : Int) + 1 = ((j + 1 : Nat) : Int) by omega, words_l0 s hs k (j + 1) (by omega) (by omega), hl, Bool.true_and]
    · rw [if_neg (by omega), List.drop_eq_nil_of_le (show s.data.toList.length ≤ j by show s.size ≤ j; omega)]; rfl
end
section
open Go.RowKit Go.Proofs.YtmndicibakaceaaDoorW.PrintWords Go.Proofs.YtmndicibakaceaaDoorW.PrintLast Go.Proofs.YtmndicibakaceaaDoorW.PrintMore
theorem u8_of {c d : UInt8} (h : (c.toNat : Int) = (d.toNat : Int)) : c = d := UInt8.toNat_inj.1 (by omega)
theorem bt_list {l : List UInt8} {i : Nat} (h : i < l.length) : bt (ofL l) (i : Int) = ((l[i]'h).toNat : Int) := by
  rw [bt_cast _ _ (by rw [ofL_size]; exact h)]
  simp [ofL]
theorem allB_list (p : Int → Bool) (l : List UInt8) : allB p (ofL l) = l.all fun c => p (c.toNat : Int) := by
  unfold allB
  rw [Bool.eq_iff_iff, List.all_eq_true, List.all_eq_true]
  constructor
  · intro h c hc
    obtain ⟨i, hi, rfl⟩ := List.getElem_of_mem hc
    have := h i (List.mem_range.2 (by rw [ofL_size]; exact hi))
    rwa [bt_list hi] at this
  · intro h j hj
    have hj := List.mem_range.1 hj
    rw [ofL_size] at hj
    rw [bt_list hj]
    exact h _ (List.getElem_mem hj)
/-! ### names -/
theorem words_some (s : ByteArray) (hs : s.size ≤ 1000000000) (k : Nat) (hk : s.size < k) : modcertref03_words.f k s = some (allB isWord s) := by
  obtain ⟨k, rfl⟩ : ∃ q, k = q + 1 := ⟨k - 1, by omega⟩
  have h := words_l0 s hs k 0 (by omega) (Nat.zero_le _)
  unfold modcertref03_words.f
  rw [show (0 : Int) = ((0 : Nat) : Int) from rfl, h, List.drop_zero, ← allB_list, ofL_of]
theorem kws_some : modcertref03_Keywords.f = some (modcertref03_Keywords.f.getD []) := by kernel_rfl
theorem kws_len : (modcertref03_Keywords.f.getD []).length = 28 := by kernel_rfl
theorem Has_some (xs : List ByteArray) (s : ByteArray) (hx : xs.length ≤ 1000) (k : Nat) (hk : xs.length < k) : modcertref03_Has.f k xs s = some (decide (s.data.toList ∈ xs.map (·.data.toList))) := by
  obtain ⟨k, rfl⟩ : ∃ q, k = q + 1 := ⟨k - 1, by omega⟩
  have h := has_l0 xs s hx k 0 (by omega) (Nat.zero_le _)
  unfold modcertref03_Has.f
  exact h
theorem word_blank (s : ByteArray) (h : allB isWord s = true) : ∀ c ∈ s.data.toList, c ≠ 32 := by
  rintro c hc rfl
  rw [← ofL_of s, allB_list, List.all_eq_true] at h
  have := h 32 hc
  exact absurd this (by decide)
theorem refName_some (s : ByteArray) (hs : s.size ≤ 1000000000) (k : Nat) (hk : s.size < k) (hk2 : 28 < k) : modcertref03_IsName.f k s = some (isNameB s) := by
  unfold modcertref03_IsName.f isNameB
  by_cases h0 : s.size = 0
  · rw [if_neg (by omega), decide_eq_false (by omega)]; rfl
  · rw [if_pos (by omega), decide_eq_true (by omega)]
    by_cases h1 : s.size ≤ 32
    · rw [if_pos (by omega), if_pos (by omega), decide_eq_true h1, ref_small, Option.bind_some, words_some s hs k hk]
      cases hsm : isSmall (bt s 0)
      · rw [if_neg (by simp)]; rfl
      · rw [if_pos rfl, Option.bind_some]
        cases hw : allB isWord s
        · rw [if_neg (by simp)]; rfl
        · rw [if_pos rfl, kws_some, Option.bind_some, Has_some _ s (by rw [kws_len]; decide) k (by rw [kws_len]; exact hk2), Option.bind_some, kwB_words s (word_blank s hw)]
          rfl
    · rw [if_neg (by omega), decide_eq_false h1]; rfl
theorem refType_some (s : ByteArray) (hs : s.size ≤ 1000000000) (k : Nat) (hk : s.size < k) : modcertref03_IsType.f k s = some (isTypeB s) := by
  unfold modcertref03_IsType.f isTypeB
  by_cases h0 : s.size = 0
  · rw [if_neg (by omega), decide_eq_false (by omega)]; rfl
  · rw [if_pos (by omega), decide_eq_true (by omega)]
    by_cases h1 : s.size ≤ 32
    · rw [if_pos (by omega), if_pos (by omega), decide_eq_true h1, ref_capital, Option.bind_some, words_some s hs k hk]
      cases hsm : isCapital (bt s 0)
      · rw [if_neg (by simp)]; rfl
      · rw [if_pos rfl]; rfl
    · rw [if_neg (by omega), decide_eq_false h1]; rfl
theorem digit_range {c : Int} (h : isDigit c = true) : 48 ≤ c ∧ c ≤ 57 := by
  unfold isDigit at h
  simpa using h
theorem toList_ofL (l : List UInt8) : (ofL l).toList = l := by rw [Lib.toList_data, ofL_list]
theorem rd_str {xs : List ByteArray} {i : Nat} (h : i < xs.length) : rdOf ByteArray.empty xs (i : Int) = xs[i] := by simp [rdOf, h]
end
end Go.Proofs.YtmndicibakaceaaDoor.Pr
