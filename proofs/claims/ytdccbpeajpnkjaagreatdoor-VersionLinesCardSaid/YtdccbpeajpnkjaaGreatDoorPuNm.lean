/- Keywords and names: the program's against the reference's, told of lists. -/
import Derived.Test.YtdccbpeajpnkjaaGreatDoorPuMaj
import Derived.Test.YtdccbpeajpnkjaaGreatDoorPr11
import Derived.Test.YtdccbpeajpnkjaaGreatDoorExtS
import Derived.Test.YtdccbpeajpnkjaaGreatDoorPr5
import Derived.Test.YtdccbpeajpnkjaaGreatDoorPr12
namespace Go.Proofs.YtdccbpeajpnkjaaGreatDoor.Pr
open Go.RowKit Go.Proofs.YtdccbpeajpnkjaaGreatDoorW.PrintWords Go.Proofs.YtdccbpeajpnkjaaGreatDoorW.PrintLast Go.Proofs.YtdccbpeajpnkjaaGreatDoorW.PrintMore
theorem contains_cons (b : UInt8) (l p : List UInt8) : Lib.contains (b :: l) p = (p.isPrefixOf (b :: l) || Lib.contains l p) := by
  have h := Lib.index_ge l p
  unfold Lib.contains
  rw [Lib.index]
  by_cases hp : p.isPrefixOf (b :: l) = true
  · rw [if_pos hp, hp]; rfl
  · rw [if_neg hp, Bool.eq_false_iff.2 hp, Bool.false_or]
    by_cases h1 : Lib.index l p = -1
    · rw [if_pos (by rw [h1]; rfl), h1]
    · rw [if_neg (by simpa using h1)]
      rw [decide_eq_true (show 0 ≤ Lib.index l p + 1 by omega), decide_eq_true (show 0 ≤ Lib.index l p by omega)]
theorem contains_skip {q l : List UInt8} : ∀ {w : List UInt8}, (∀ c ∈ w, c ≠ 32) → Lib.contains (w ++ l) (32 :: q) = Lib.contains l (32 :: q)
  | [], _ => rfl
  | c :: w, h => by
    rw [List.cons_append, contains_cons, contains_skip (fun x hx => h x (List.mem_cons_of_mem _ hx))]
    have hc : ((32 : UInt8) == c) = false := by
      rw [beq_eq_false_iff_ne]; exact fun e => h c (List.mem_cons_self ..) e.symm
    rw [List.isPrefixOf, hc]; rfl
theorem prefix_word : ∀ {s w l : List UInt8}, (∀ c ∈ s, c ≠ 32) → (∀ c ∈ w, c ≠ 32) → (s ++ [32]).isPrefixOf (w ++ 32 :: l) = decide (s = w)
  | [], [], l, _, _ => by simp [List.isPrefixOf]
  | [], c :: w, l, _, hw => by
    have hc : ((32 : UInt8) == c) = false := by
      rw [beq_eq_false_iff_ne]; exact fun e => hw c (List.mem_cons_self ..) e.symm
    simp [List.isPrefixOf, hc]
  | c :: s, [], l, hs, _ => by
    have hc : (c == (32 : UInt8)) = false := by
      rw [beq_eq_false_iff_ne]; exact hs c (List.mem_cons_self ..)
    simp [List.isPrefixOf, hc]
  | c :: s, d :: w, l, hs, hw => by
    have ih := prefix_word (l := l) (fun x hx => hs x (List.mem_cons_of_mem _ hx)) (fun x hx => hw x (List.mem_cons_of_mem _ hx))
    rw [List.cons_append, List.cons_append, List.isPrefixOf, ih]
    by_cases hcd : c = d
    · subst hcd; simp
    · simp [hcd]
theorem contains_words {s : List UInt8} (hs : ∀ c ∈ s, c ≠ 32) : ∀ (ws : List (List UInt8)), (∀ w ∈ ws, ∀ c ∈ w, c ≠ 32) → Lib.contains (ws.flatMap (fun w => 32 :: w) ++ [32]) (32 :: (s ++ [32])) = decide (s ∈ ws)
  | [], _ => by
    rw [List.flatMap_nil, List.nil_append, contains_cons]
    have h1 : (32 :: (s ++ [32]) : List UInt8).isPrefixOf [32] = false := by
      cases s <;> simp [List.isPrefixOf]
    rw [h1]; rfl
  | w :: ws, hw => by
    have ih := contains_words hs ws (fun x hx => hw x (List.mem_cons_of_mem _ hx))
    obtain ⟨r, hr⟩ : ∃ r, ws.flatMap (fun w => 32 :: w) ++ [32] = (32 : UInt8) :: r := by
      cases ws with
      | nil => exact ⟨[], rfl⟩
      | cons x ws => exact ⟨_, rfl⟩
    rw [List.flatMap_cons, List.append_assoc, hr, List.cons_append, contains_cons, contains_skip (hw w (List.mem_cons_self ..)), ← hr, ih, hr]
    rw [List.isPrefixOf, prefix_word hs (hw w (List.mem_cons_self ..))]
    simp [Bool.decide_or]
theorem has_l0 (xs : List ByteArray) (s : ByteArray) (hx : xs.length ≤ 1000) : ∀ (k j : Nat), xs.length - j ≤ k → j ≤ xs.length → modcertref03_Has.l0 (k + 1) xs s (j : Int) = some (decide (s.data.toList ∈ (xs.drop j).map (·.data.toList)))
  | k, j, hk, hj => by
    rw [modcertref03_Has.l0]
    by_cases h : j < xs.length
    · rw [if_pos (by omega), if_pos (by omega)]
      have hd := List.drop_eq_getElem_cons h
      have hr : rdOf ByteArray.empty xs (j : Int) = xs[j] := by simp [rdOf, h]
      rw [hr, hd, List.map_cons]
      obtain ⟨k, rfl⟩ : ∃ q, k = q + 1 := ⟨k - 1, by omega⟩
      rw [Lib.toList_data, Lib.toList_data]
      by_cases he : xs[j].data.toList = s.data.toList
      · rw [if_pos he, decide_eq_true (List.mem_cons.2 (.inl he.symm))]
      · rw [if_neg he, wr64 (by omega), show (j : Int) + 1 = ((j + 1 : Nat) : Int) by omega, has_l0 xs s hx k (j + 1) (by omega) (by omega)]
        congr 1
        rw [decide_eq_decide, List.mem_cons]
        exact ⟨.inr, fun h => h.elim (fun h => absurd h.symm he) id⟩
    · rw [if_neg (by omega), List.drop_eq_nil_of_le (by omega)]; simp
/-- the keywords, as the reference has them. -/
def kwWords : List (List UInt8) := (modcertref03_Keywords.f.getD []).map (·.data.toList)
set_option maxRecDepth 100000 in
theorem kwList_words : kwList = kwWords.flatMap (fun w => 32 :: w) ++ [32] := by kernel_rfl
set_option maxRecDepth 100000 in
theorem kwWords_clean : ∀ w ∈ kwWords, ∀ c ∈ w, c ≠ 32 := by
  have h : (kwWords.all fun w => w.all fun c => c != 32) = true := by kernel_rfl
  intro w hw c hc
  have h1 := List.all_eq_true.1 (List.all_eq_true.1 h w hw) c hc
  simpa using h1
theorem kwB_words (s : ByteArray) (hs : ∀ c ∈ s.data.toList, c ≠ 32) : kwB s = decide (s.data.toList ∈ kwWords) := by
  unfold kwB; rw [kwList_words]; exact contains_words hs kwWords kwWords_clean
theorem ref_small (c : Int) : modcertref03_small.f c = some (isSmall c) := by unfold modcertref03_small.f isSmall; split <;> simp_all <;> omega
theorem ref_capital (c : Int) : modcertref03_capital.f c = some (isCapital c) := by unfold modcertref03_capital.f isCapital; split <;> simp_all <;> omega
theorem ref_digit (c : Int) : modcertref03_digit.f c = some (isDigit c) := by unfold modcertref03_digit.f isDigit; split <;> simp_all <;> omega
theorem ref_word (c : Int) : modcertref03_word.f c = some (isWord c) := by
  unfold modcertref03_word.f isWord
  rw [ref_small, Option.bind_some, ref_capital, ref_digit]
  cases isSmall c <;> cases isCapital c <;> cases isDigit c <;> simp
theorem words_l0 (s : ByteArray) (hs : s.size ≤ 1000000000) : ∀ (k j : Nat), s.size - j ≤ k → j ≤ s.size → modcertref03_words.l0 (k + 1) s (j : Int) = some ((s.data.toList.drop j).all fun c => isWord c.toNat)
  | k, j, hk, hj => by
    rw [modcertref03_words.l0]
    by_cases h : j < s.size
    · obtain ⟨c, l, hd, hb, hl⟩ := drop_cons h
      rw [if_pos (by omega), if_pos (by omega), hb, ref_word, Option.bind_some, hd, List.all_cons]
      obtain ⟨k, rfl⟩ : ∃ q, k = q + 1 := ⟨k - 1, by omega⟩
      cases hw : isWord c.toNat
      · rw [if_neg (by simp)]; rfl
      · rw [if_pos rfl, wr64 (by omega), show (j : Int) + 1 = ((j + 1 : Nat) : Int) by omega, words_l0 s hs k (j + 1) (by omega) (by omega), hl, Bool.true_and]
    · rw [if_neg (by omega), List.drop_eq_nil_of_le (show s.data.toList.length ≤ j by show s.size ≤ j; omega)]; rfl

/-! ### names -/
theorem words_some (s : ByteArray) (hs : s.size ≤ 1000000000) (k : Nat) (hk : s.size < k) : modcertref03_words.f k s = some (allB isWord s) := by
  obtain ⟨k, rfl⟩ : ∃ q, k = q + 1 := ⟨k - 1, by omega⟩
  have h := words_l0 s hs k 0 (by omega) (Nat.zero_le _)
  unfold modcertref03_words.f
  rw [show (0 : Int) = ((0 : Nat) : Int) from rfl, h, List.drop_zero, ← allB_list, ofL_of]
theorem kws_some : modcertref03_Keywords.f = some (modcertref03_Keywords.f.getD []) := by kernel_rfl
theorem kws_len : (modcertref03_Keywords.f.getD []).length = 28 := by kernel_rfl
theorem Has_some (xs : List ByteArray) (s : ByteArray) (hx : xs.length ≤ 1000) (k : Nat) (hk : xs.length < k) : modcertref03_Has.f k xs s = some (decide (s.data.toList ∈ xs.map (·.data.toList))) := by
  obtain ⟨k, rfl⟩ : ∃ q, k = q + 1 := ⟨k - 1, by omega⟩
  have h := has_l0 xs s hx k 0 (by omega) (Nat.zero_le _)
  unfold modcertref03_Has.f
  exact h
theorem word_blank (s : ByteArray) (h : allB isWord s = true) : ∀ c ∈ s.data.toList, c ≠ 32 := by
  rintro c hc rfl
  rw [← ofL_of s, allB_list, List.all_eq_true] at h
  have := h 32 hc
  exact absurd this (by decide)
theorem refName_some (s : ByteArray) (hs : s.size ≤ 1000000000) (k : Nat) (hk : s.size < k) (hk2 : 28 < k) : modcertref03_IsName.f k s = some (isNameB s) := by
  unfold modcertref03_IsName.f isNameB
  by_cases h0 : s.size = 0
  · rw [if_neg (by omega), decide_eq_false (by omega)]; rfl
  · rw [if_pos (by omega), decide_eq_true (by omega)]
    by_cases h1 : s.size ≤ 32
    · rw [if_pos (by omega), if_pos (by omega), decide_eq_true h1, ref_small, Option.bind_some, words_some s hs k hk]
      cases hsm : isSmall (bt s 0)
      · rw [if_neg (by simp)]; rfl
      · rw [if_pos rfl, Option.bind_some]
        cases hw : allB isWord s
        · rw [if_neg (by simp)]; rfl
        · rw [if_pos rfl, kws_some, Option.bind_some, Has_some _ s (by rw [kws_len]; decide) k (by rw [kws_len]; exact hk2), Option.bind_some, kwB_words s (word_blank s hw)]
          rfl
    · rw [if_neg (by omega), decide_eq_false h1]; rfl
end Go.Proofs.YtdccbpeajpnkjaaGreatDoor.Pr
/- What IsPath and Major answer, of the program and of the reference: the same, told of lists. -/
namespace Go.Proofs.YtdccbpeajpnkjaaGreatDoor.Pr
open Go.RowKit Go.Proofs.YtdccbpeajpnkjaaGreatDoorW.PrintWords Go.Proofs.YtdccbpeajpnkjaaGreatDoorW.PrintLast Go.Proofs.YtdccbpeajpnkjaaGreatDoorW.PrintMore
theorem splitL_snoc (c x : UInt8) : ∀ l : List UInt8, ∃ I L, splitL c l = I ++ [L] ∧ splitL c (l ++ [x]) = if x = c then I ++ [L] ++ [[]] else I ++ [L ++ [x]]
  | [] => ⟨[], [], rfl, by
    rw [List.nil_append, splitL]
    split
    · rfl
    · rfl⟩
  | y :: l => by
    obtain ⟨I, L, h1, h2⟩ := splitL_snoc c x l
    rw [List.cons_append, splitL, splitL, h1, h2]
    by_cases hy : y = c
    · rw [if_pos hy, if_pos hy]
      refine ⟨[] :: I, L, rfl, ?_⟩
      split <;> rfl
    · rw [if_neg hy, if_neg hy]
      cases I with
      | nil =>
        refine ⟨[], y :: L, rfl, ?_⟩
        split <;> rfl
      | cons J I =>
        refine ⟨(y :: J) :: I, L, rfl, ?_⟩
        split <;> rfl
theorem segState_list (s : ByteArray) : ∀ k, k ≤ s.size → ((segState s k).1 ++ [(segState s k).2]).map (·.data.toList) = splitL 47 (s.data.toList.take k)
  | 0, _ => rfl
  | k + 1, h => by
    have ih := segState_list s k (by omega)
    obtain ⟨c, l, hd, hb, hl⟩ := drop_cons (s := s) (i := k) (by omega)
    have ht : s.data.toList.take (k + 1) = s.data.toList.take k ++ [c] := by
      rw [List.take_add_one, ← List.head?_drop, hd]; rfl
    obtain ⟨I, L, h1, h2⟩ := splitL_snoc 47 c (s.data.toList.take k)
    rw [← ih, List.map_append, List.map_cons, List.map_nil] at h1
    obtain ⟨e1, e2⟩ := List.append_inj' h1 rfl
    injection e2 with e2 _
    rw [ht, h2, segState, hb]
    by_cases hc : c = 47
    · subst hc
      rw [if_pos (by decide), if_pos rfl, ← e1, ← e2]
      simp
    · rw [if_neg (fun h => hc (UInt8.toNat_inj.1 (by have : c.toNat = 47 := by omega
                                                     exact this))), if_neg hc, ← e1, ← e2]
      have hs : ((segState s k).2 ++ strOfNums [(c.toNat : Int)]).data.toList = (segState s k).2.data.toList ++ [c] := by
        rw [ByteArray.data_append, Array.toList_append, strOfNums_data]
        simp
      rw [List.map_append, List.map_cons, List.map_nil, hs]
theorem map_data_inj : ∀ {a b : List ByteArray}, a.map (·.data.toList) = b.map (·.data.toList) → a = b
  | [], [], _ => rfl
  | [], _ :: _, h => by simp at h
  | _ :: _, [], h => by simp at h
  | x :: a, y :: b, h => by
    rw [List.map_cons, List.map_cons] at h
    injection h with h1 h2
    have hx := ofL_eq h1
    rw [ofL_of] at hx
    rw [hx, map_data_inj h2]
/-- the program's parts of a path are the reference's. -/
theorem parts_eq (s : ByteArray) : Lib.splitB ⟨#[47]⟩ 0 (Lib.countB s ⟨#[47]⟩) s = (segState s s.size).1 ++ [(segState s s.size).2] := by
  apply map_data_inj
  rw [splitB_list, segState_list s _ (Nat.le_refl _), List.take_of_length_le (show s.data.toList.length ≤ s.size from Nat.le_refl _)]

/-- the reference's number of the last part, or -1. -/
def verI (l : List UInt8) : Int := match verL l with | some n => n | none => -1
theorem verI_pos {c : UInt8} {m : List UInt8} (h : c = 118 ∧ m ≠ [] ∧ m.length ≤ 3 ∧ ¬ (1 < m.length ∧ m.head? = some 48) ∧ (m.all fun c => isDigit (c.toNat : Int)) = true) : verI (c :: m) = numL 0 m := by
  unfold verI; rw [verL_cons, if_pos h]
theorem verI_neg {c : UInt8} {m : List UInt8} (h : ¬ (c = 118 ∧ m ≠ [] ∧ m.length ≤ 3 ∧ ¬ (1 < m.length ∧ m.head? = some 48) ∧ (m.all fun c => isDigit (c.toNat : Int)) = true)) : verI (c :: m) = -1 := by
  unfold verI; rw [verL_cons, if_neg h]
theorem major_loop (c0 : UInt8) (l : List UInt8) (hl : l.length ≤ 3) : ∀ (d i k : Nat) (n : Int), i + d = l.length → d < k → 0 ≤ n → ((i = 0 ∧ n ≤ 0) ∨ (i = 1 ∧ n ≤ 9) ∨ (i = 2 ∧ n ≤ 99) ∨ (3 ≤ i ∧ n ≤ 999)) →
    modcertref03_major.l0 k (ofL (c0 :: l)) n ((i + 1 : Nat) : Int) = some (if ((l.drop i).all fun c => isDigit (c.toNat : Int)) = true then numL n (l.drop i) else -1)
  | 0, i, k, n, hi, hk, _, _ => by
    obtain ⟨k, rfl⟩ : ∃ q, k = q + 1 := ⟨k - 1, by omega⟩
    rw [modcertref03_major.l0, if_neg (by rw [ofL_size, List.length_cons]; omega), List.drop_eq_nil_of_le (by omega)]; rfl
  | d + 1, i, k, n, hi, hk, h0, hb => by
    obtain ⟨k, rfl⟩ : ∃ q, k = q + 1 := ⟨k - 1, by omega⟩
    have hlt : i < l.length := by omega
    have hbt : bt (ofL (c0 :: l)) ((i + 1 : Nat) : Int) = ((l[i]'hlt).toNat : Int) := by
      rw [bt_list (by rw [List.length_cons]; omega)]; simp
    rw [modcertref03_major.l0, if_pos (by rw [ofL_size, List.length_cons]; omega), if_pos (by omega), hbt, ref_digit, Option.bind_some, List.drop_eq_getElem_cons hlt, List.all_cons, numL]
    cases hd : isDigit ((l[i]'hlt).toNat : Int)
    · rw [if_neg (by simp)]; rfl
    · have hd' := digit_range hd
      have ih := major_loop c0 l hl d (i + 1) k (10 * n + (((l[i]'hlt).toNat : Int) - 48)) (by omega) (by omega) (by omega) (by omega)
      generalize ((l[i]'hlt).toNat : Int) = c at *
      have e1 : (c - 48) % 256 = c - 48 := by omega
      rw [if_pos rfl, e1, show wrap64 (10 * n) = 10 * n by unfold wrap64; omega, show wrap64 (10 * n + (c - 48)) = 10 * n + (c - 48) by unfold wrap64; omega, show wrap64 (((i + 1 : Nat) : Int) + 1) = ((i + 1 + 1 : Nat) : Int) by unfold wrap64; omega, ih, Bool.true_and]
theorem refMajor_last (l : List UInt8) (k : Nat) (hk : 6 ≤ k) : modcertref03_major.f k (ofL l) = some (verI l) := by
  obtain ⟨k, rfl⟩ : ∃ q, k = q + 6 := ⟨k - 6, by omega⟩
  have jT : ∀ x, modcertref03_major.j0 (k + 6) x true = some (-1) := fun x => by rw [modcertref03_major.j0, if_pos rfl]
  unfold modcertref03_major.f
  rw [ofL_size]
  cases l with
  | nil => rw [if_pos (by simp), jT]; rfl
  | cons c m =>
    rw [List.length_cons]
    by_cases h0 : m = []
    · subst h0
      rw [if_pos (by simp), jT, verI_neg (fun h => h.2.1 rfl)]
    · have hpos := List.length_pos_iff.2 h0
      rw [if_neg (by omega)]
      by_cases h3 : m.length ≤ 3
      · rw [if_neg (by omega), if_pos (by omega)]
        have hb0 : bt (ofL (c :: m)) 0 = (c.toNat : Int) := bt_list (l := c :: m) (i := 0) (by simp)
        have hb1 : bt (ofL (c :: m)) 1 = ((m[0]'hpos).toNat : Int) := by
          rw [show (1 : Int) = ((1 : Nat) : Int) from rfl, bt_list (by rw [List.length_cons]; omega)]; simp
        have hh : m.head? = some (m[0]'hpos) := by rw [List.head?_eq_getElem?, List.getElem?_eq_getElem hpos]
        have hz : (bt (ofL (c :: m)) 1 = 48) ↔ m.head? = some 48 := by
          rw [hb1, hh]
          constructor
          · intro h; rw [u8_of (c := m[0]'hpos) (d := 48) h]
          · intro h; injection h with h; rw [h]; rfl
        have hcc : (bt (ofL (c :: m)) 0 = 118) ↔ c = 118 := by
          rw [hb0]
          constructor
          · intro h; exact u8_of (d := 118) h
          · intro h; rw [h]; rfl
        by_cases hc : c = 118
        · rw [if_pos (hcc.2 hc), if_pos (by omega)]
          have main : ¬ (1 < m.length ∧ m.head? = some 48) → modcertref03_major.j0 (k + 6) (ofL (c :: m)) false = some (verI (c :: m)) := by
            intro hn
            have hm := major_loop c m h3 m.length 0 (k + 5) 0 (by omega) (by omega) (by omega) (by omega)
            rw [List.drop_zero] at hm
            rw [modcertref03_major.j0, if_neg (by decide)]
            refine hm.trans ?_
            cases ha : m.all fun c => isDigit (c.toNat : Int)
            · rw [if_neg (by simp), verI_neg (fun h => by rw [ha] at h; exact absurd h.2.2.2.2 (by decide))]
            · rw [if_pos rfl, verI_pos ⟨hc, h0, h3, hn, ha⟩]
          by_cases h48 : bt (ofL (c :: m)) 1 = 48
          · rw [if_pos h48]
            by_cases h1 : 1 < m.length
            · rw [decide_eq_true (by omega), jT, verI_neg (fun h => h.2.2.2.1 ⟨h1, hz.1 h48⟩)]
            · rw [decide_eq_false (by omega)]
              exact main (fun h => h1 h.1)
          · rw [if_neg h48]
            exact main (fun h => h48 (hz.2 h.2))
        · rw [if_neg (fun h => hc (hcc.1 h)), jT, verI_neg (fun h => hc h.1)]
      · rw [if_pos (by omega), jT, verI_neg (fun h => h3 h.2.2.1)]
theorem segment_loop (s : ByteArray) (hs : s.size ≤ 1000000) : ∀ (d i k : Nat), i + d = s.size → d + s.size + 40 < k →
    modcertref03_segment.l0 k s (i : Int) = some (isNameB s && (s.data.toList.drop i).all fun c => isLower (c.toNat : Int))
  | 0, i, k, hi, hk => by
    obtain ⟨k, rfl⟩ : ∃ q, k = q + 1 := ⟨k - 1, by omega⟩
    rw [modcertref03_segment.l0, if_neg (by omega), refName_some s (by omega) k (by omega) (by omega), List.drop_eq_nil_of_le (show s.data.toList.length ≤ i by show s.size ≤ i; omega)]
    simp
  | d + 1, i, k, hi, hk => by
    obtain ⟨k, rfl⟩ : ∃ q, k = q + 1 := ⟨k - 1, by omega⟩
    obtain ⟨c, l, hd, hb, hl⟩ := drop_cons (s := s) (i := i) (by omega)
    have ih := segment_loop s hs d (i + 1) k (by omega) (by omega)
    rw [modcertref03_segment.l0, if_pos (by omega), if_pos (by omega), hb, hd, ref_small, ref_digit, List.all_cons, wr64 (by omega), show ((i : Int) + 1) = ((i + 1 : Nat) : Int) by omega, ih, hl]
    unfold isLower
    simp only [Option.bind_some]
    cases isSmall (c.toNat : Int) <;> cases isDigit (c.toNat : Int) <;> simp
theorem segment_some (s : ByteArray) (hs : s.size ≤ 1000000) (k : Nat) (hk : 2 * s.size + 40 < k) : modcertref03_segment.f k s = some (isSegB s) := by
  have h := segment_loop s hs s.size 0 k (by omega) (by omega)
  rw [List.drop_zero] at h
  exact h
def finOf (s : ByteArray) : Int × Int := if ((partsOf s).length : Int) < 2 then (0, 4) else if verI (lastOf s).data.toList < 0 then (0, 4) else (verI (lastOf s).data.toList, 0)
theorem refMajor_loop (s : ByteArray) (hs : s.size ≤ 64) : ∀ (d i k : Nat), i + d = (partsOf s).length → d + 2 * s.size + 50 < k →
    modcertref03_Major.l0 k (partsOf s) (i : Int) = some (if ((partsOf s).drop i).all isSegB = true then finOf s else (0, 4))
  | 0, i, k, hi, hk => by
    obtain ⟨k, rfl⟩ : ∃ q, k = q + 1 := ⟨k - 1, by omega⟩
    have hp := partsOf_len s
    rw [modcertref03_Major.l0, if_neg (by omega), wr64 (by omega), if_pos (by omega), if_pos (by omega), rd_last, ← ofL_of (lastOf s), refMajor_last _ k (by omega), Option.bind_some, List.drop_eq_nil_of_le (by omega)]
    unfold finOf
    rw [show (List.all ([] : List ByteArray) isSegB) = true from rfl, if_pos rfl]
    split
    · rfl
    · split <;> rfl
  | d + 1, i, k, hi, hk => by
    obtain ⟨k, rfl⟩ : ∃ q, k = q + 1 := ⟨k - 1, by omega⟩
    have hp := partsOf_len s
    have hlt : i < (partsOf s).length := by omega
    have hsz := partsOf_size s _ (List.getElem_mem hlt)
    have ih := refMajor_loop s hs d (i + 1) k (by omega) (by omega)
    rw [modcertref03_Major.l0, if_pos (by omega), if_pos (by omega), rd_str hlt, segment_some _ (by omega) k (by omega), Option.bind_some, wr64 (by omega), show ((i : Int) + 1) = ((i + 1 : Nat) : Int) by omega, ih, List.drop_eq_getElem_cons hlt, List.all_cons]
    cases isSegB (partsOf s)[i]
    · rw [if_neg (by simp)]; rfl
    · rw [if_pos rfl, Bool.true_and]
theorem refMajor_some (s : ByteArray) (hs : s.size ≤ 100000) (k : Nat) (hk : 300 ≤ k) : modcertref03_Major.f k s = some (majorOf s) := by
  unfold modcertref03_Major.f majorOf majorB
  by_cases h64 : s.size ≤ 64
  · have hp := partsOf_len s
    have hseg : modcertref03_Segments.f s = some (partsOf s) := by
      unfold modcertref03_Segments.f
      rw [if_pos (by omega)]; exact congrArg some (parts_eq s).symm
    have h := refMajor_loop s h64 (partsOf s).length 0 k (by omega) (by omega)
    rw [List.drop_zero] at h
    rw [if_neg (by omega), hseg, Option.bind_some, decide_eq_true h64]
    refine h.trans ?_
    unfold finOf verR verI
    cases (partsOf s).all isSegB
    · rw [if_neg (by simp)]; simp
    · rw [if_pos rfl]
      by_cases h2 : 2 ≤ (partsOf s).length
      · rw [if_neg (by omega), decide_eq_true h2]
        cases hv : verL (lastOf s).data.toList with
        | none => simp
        | some n =>
          have := verL_some_range hv
          simp only
          rw [if_neg (by omega)]; rfl
      · rw [if_pos (by omega), decide_eq_false h2]; rfl
  · rw [if_pos (by omega), decide_eq_false h64]; rfl


end Go.Proofs.YtdccbpeajpnkjaaGreatDoor.Pr
