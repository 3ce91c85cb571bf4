/- What the reference's token, skip and Lex answer, told of lists: what the program's do. | The reference's skip and Lex, told of lists; the plain law of LexerTokens: what the printed function answers is true. -/
import Derived.Test.YtmndicibakaceaaDoorPuKn
import Derived.Test.YtmndicibakaceaaDoorPuLex
import Derived.Test.YtmndicibakaceaaDoorPr16
import Derived.Test.YtmndicibakaceaaDoorPr16
namespace Go.Proofs.YtmndicibakaceaaDoor.Pr
section
open Go.RowKit Go.Proofs.YtmndicibakaceaaDoorW.PrintWords Go.Proofs.YtmndicibakaceaaDoorW.PrintLast Go.Proofs.YtmndicibakaceaaDoorW.PrintMore
theorem bt_cons0 (c : UInt8) (l : List UInt8) : bt (ofL (c :: l)) 0 = (c.toNat : Int) := bt_list (l := c :: l) (i := 0) (by simp)
theorem bt_cons1 (c d : UInt8) (l : List UInt8) : bt (ofL (c :: d :: l)) 1 = (d.toNat : Int) := bt_list (l := c :: d :: l) (i := 1) (by simp)
theorem bt_cons2 (c d e : UInt8) (l : List UInt8) : bt (ofL (c :: d :: e :: l)) 2 = (e.toNat : Int) := bt_list (l := c :: d :: e :: l) (i := 2) (by simp)
theorem bt_cons3 (c d e f : UInt8) (l : List UInt8) : bt (ofL (c :: d :: e :: f :: l)) 3 = (f.toNat : Int) := bt_list (l := c :: d :: e :: f :: l) (i := 3) (by simp)
theorem ofL_ext (l : List UInt8) (i : Nat) : (ofL l).extract i (ofL l).size = ofL (l.drop i) := by
  rw [ext_ofL, ofL_list, ofL_size, List.take_of_length_le]
  rw [List.length_drop]; exact Nat.le_refl _
theorem ofL_head (l : List UInt8) (i : Nat) : (ofL l).extract 0 i = ofL (l.take i) := by
  rw [ext_ofL, ofL_list]; rfl
theorem refHex_some (c : Int) (h0 : 0 ≤ c) (h1 : c ≤ 255) : modcertref03_hex.f c = some (hexV c) := by
  unfold modcertref03_hex.f hexV
  rw [ref_digit, Option.bind_some]
  unfold isDigit
  by_cases h2 : 48 ≤ c ∧ c ≤ 57
  · rw [if_pos (by simp [h2]), if_pos h2]; congr 1; omega
  · rw [if_neg (by simpa using h2), if_neg h2]
    by_cases h3 : 97 ≤ c
    · rw [if_pos h3]
      by_cases h4 : c ≤ 102
      · rw [if_pos h4, if_pos ⟨h3, h4⟩]; congr 1; omega
      · rw [if_neg h4, if_neg (fun h => h4 h.2)]
    · rw [if_neg h3, if_neg (fun h => h3 h.1)]
theorem byte_range (c : UInt8) : (0 : Int) ≤ (c.toNat : Int) ∧ (c.toNat : Int) ≤ 255 := by
  have := c.toNat_lt
  omega
def charR (L : List UInt8) : Int × Int := match charL L with | some (v, w) => (v, (w : Int)) | none => (0, 0)
theorem char_some (L : List UInt8) (k : Nat) (hk : 3 ≤ k) : modcertref03_character.f k (ofL L) = some (charR L) := by
  obtain ⟨k, rfl⟩ : ∃ q, k = q + 3 := ⟨k - 3, by omega⟩
  have jT : ∀ x, modcertref03_character.j0 (k + 3) x true = some (0, 0) := fun x => by rw [modcertref03_character.j0, if_pos rfl]
  unfold modcertref03_character.f charR
  rw [toList_ofL]
  match L with
  | [] => rw [if_pos rfl, jT]; rfl
  | c :: l1 =>
    have hc := byte_range c
    rw [if_neg (by simp), if_pos (by rw [ofL_size, List.length_cons]; omega), bt_cons0, charL_cons]
    by_cases h1 : c.toNat = 34 ∨ c.toNat < 32
    · rw [if_pos h1]
      by_cases h2 : c.toNat < 32
      · rw [if_pos (by omega), jT]
      · rw [if_neg (by omega), show ((c.toNat : Int) == 34) = true by rw [beq_iff_eq]; omega, jT]
    · rw [if_neg h1, if_neg (by omega), show ((c.toNat : Int) == 34) = false by rw [beq_eq_false_iff_ne]; omega, modcertref03_character.j0, if_neg (by decide), if_pos (by rw [ofL_size, List.length_cons]; omega), bt_cons0]
      by_cases h3 : c.toNat ≠ 92
      · rw [if_pos h3, if_neg (by omega)]; rfl
      · rw [if_neg h3, if_pos (by omega)]
        match l1 with
        | [] => rw [if_pos (by rw [ofL_size]; simp)]
        | d :: l2 =>
          have hd := byte_range d
          rw [if_neg (by rw [ofL_size, List.length_cons, List.length_cons]; omega), if_pos (by rw [ofL_size, List.length_cons, List.length_cons]; omega), bt_cons1]
          simp only
          by_cases h4 : d.toNat = 34 ∨ d.toNat = 92
          · rw [if_pos h4]
            have hj : modcertref03_character.j1 (k + 2) (ofL (c :: d :: l2)) true = some ((d.toNat : Int), 2) := by
              rw [modcertref03_character.j1, if_pos rfl, if_pos (by rw [ofL_size, List.length_cons, List.length_cons]; omega), bt_cons1]
            by_cases h5 : d.toNat = 34
            · rw [if_pos (by omega), hj]; rfl
            · rw [if_neg (by omega), show ((d.toNat : Int) == 92) = true by rw [beq_iff_eq]; omega, hj]; rfl
          · rw [if_neg h4, if_neg (by omega), show ((d.toNat : Int) == 92) = false by rw [beq_eq_false_iff_ne]; omega, modcertref03_character.j1, if_neg (by decide), if_pos (by rw [ofL_size, List.length_cons, List.length_cons]; omega), bt_cons1]
            have j2F : ∀ x, modcertref03_character.j2 (k + 1) x false = some (0, 0) := fun x => by rw [modcertref03_character.j2, if_neg (by decide)]
            by_cases h6 : d.toNat = 110
            · rw [if_pos (by omega), if_pos h6]; rfl
            · rw [if_neg (by omega), if_neg h6]
              match l2 with
              | [] => 
                by_cases h7 : d.toNat = 120
                · rw [if_pos (by omega), if_neg (by rw [ofL_size]; simp), j2F]
                · rw [if_neg (by omega), j2F]
              | [e] =>
                by_cases h7 : d.toNat = 120
                · rw [if_pos (by omega), if_neg (by rw [ofL_size]; simp), j2F]
                · rw [if_neg (by omega), j2F]
              | e :: f :: l3 =>
                have he := byte_range e
                have hf := byte_range f
                have hve := hexV_le (e.toNat : Int)
                have hvf := hexV_le (f.toNat : Int)
                simp only
                by_cases h7 : d.toNat = 120
                · rw [if_pos (by omega), if_pos (by rw [ofL_size]; simp only [List.length_cons]; omega), if_pos (by rw [ofL_size]; simp only [List.length_cons]; omega), bt_cons2, refHex_some _ he.1 he.2, Option.bind_some]
                  by_cases h8 : 0 ≤ hexV (e.toNat : Int)
                  · rw [if_pos h8, if_pos (by rw [ofL_size]; simp only [List.length_cons]; omega), bt_cons3, refHex_some _ hf.1 hf.2, Option.bind_some]
                    by_cases h9 : 0 ≤ hexV (f.toNat : Int)
                    · rw [if_pos ⟨h7, h8, h9⟩, decide_eq_true h9, modcertref03_character.j2, if_pos rfl, if_pos (by rw [ofL_size]; simp only [List.length_cons]; omega), bt_cons2, refHex_some _ he.1 he.2, Option.bind_some, if_pos (by rw [ofL_size]; simp only [List.length_cons]; omega), bt_cons3, refHex_some _ hf.1 hf.2, Option.bind_some]
                      rw [show wrap64 (16 * hexV (e.toNat : Int)) = 16 * hexV (e.toNat : Int) by unfold wrap64; omega, show wrap64 (16 * hexV (e.toNat : Int) + hexV (f.toNat : Int)) = 16 * hexV (e.toNat : Int) + hexV (f.toNat : Int) by unfold wrap64; omega, show (16 * hexV (e.toNat : Int) + hexV (f.toNat : Int)) % 256 = 16 * hexV (e.toNat : Int) + hexV (f.toNat : Int) by omega]
                      rfl
                    · rw [if_neg (fun h => h9 h.2.2), decide_eq_false h9, j2F]
                  · rw [if_neg h8, if_neg (fun h => h8 h.2.1), j2F]
                · rw [if_neg (by omega), if_neg (fun h => h7 h.1), j2F]
def textR (r : Option (List Int × Nat)) (j : Nat) : Int × ByteArray × Int × Int × Int := match r with | some (t, m) => (4, strOfNums t, 0, ((j + m : Nat) : Int), 0) | none => (0, ⟨#[]⟩, 0, 0, 3)
theorem text_loop (c0 : UInt8) (l : List UInt8) (hl : l.length ≤ 100000) : ∀ (m j : Nat) (acc : List Int) (k : Nat), l.length - j ≤ m → j ≤ l.length → acc.length ≤ j → 2 * m + 10 ≤ k →
    modcertref03_text.l0 k (ofL (c0 :: l)) acc ((j + 1 : Nat) : Int) = some (textR (litL m (l.drop j) acc) (j + 1))
  | m, j, acc, k, hm, hj, hacc, hk => by
    obtain ⟨k, rfl⟩ : ∃ q, k = q + 2 := ⟨k - 2, by omega⟩
    by_cases hlt : j < l.length
    · obtain ⟨m, rfl⟩ : ∃ q, m = q + 1 := ⟨m - 1, by omega⟩
      have hbt : bt (ofL (c0 :: l)) ((j + 1 : Nat) : Int) = ((l[j]'hlt).toNat : Int) := by
        rw [bt_list (by rw [List.length_cons]; omega)]; simp
      have hd := List.drop_eq_getElem_cons hlt
      rw [modcertref03_text.l0, if_pos (by rw [ofL_size, List.length_cons]; omega), if_pos (by omega), hbt, litL, hd]
      generalize hcc : l[j]'hlt = c at *
      by_cases h34 : c = 34
      · subst h34
        rw [show (((34 : UInt8).toNat : Int) != 34) = false by decide, modcertref03_text.j1, if_neg (by decide), if_neg (by rw [ofL_size, List.length_cons]; omega), if_pos (show (34 :: l.drop (j + 1)).head? = some 34 from rfl), wr64 (by omega)]
        rfl
      · have hb : ((c.toNat : Int) != 34) = true := by
          rw [bne_iff_ne]; intro h; exact h34 (UInt8.toNat_inj.1 (by show c.toNat = 34; omega))
        have hx : (ofL (c0 :: l)).extract ((j + 1 : Nat) : Int).toNat (ofL (c0 :: l)).size = ofL (c :: l.drop (j + 1)) := by
          rw [Int.toNat_natCast, ofL_ext, List.drop_succ_cons, hd]
        have hh : ¬ (c :: l.drop (j + 1)).head? = some 34 := by simpa using h34
        rw [hb, modcertref03_text.j1, if_pos rfl, if_pos (by omega), if_pos (by rw [ofL_size, List.length_cons]; omega), hx, char_some _ k (by omega), Option.bind_some, if_neg hh]
        unfold charR
        cases hch : charL (c :: l.drop (j + 1)) with
        | none => rw [if_pos rfl, Option.bind_none]; rfl
        | some x =>
          obtain ⟨v, w⟩ := x
          have hw := charL_len hch
          rw [List.length_cons, List.length_drop] at hw
          simp only [Option.bind_some]
          rw [if_neg (by omega), if_pos (by omega), wr64 (by omega), show ((j + 1 : Nat) : Int) + (w : Int) = ((j + w + 1 : Nat) : Int) by omega, text_loop c0 l hl m (j + w) (acc ++ [v]) k (by omega) (by omega) (by simp; omega) (by omega)]
          rw [← hd, List.drop_drop]
          cases litL m (l.drop (j + w)) (acc ++ [v]) with
          | none => rfl
          | some y =>
            obtain ⟨t, n⟩ := y
            show some (textR (some (t, n)) (j + w + 1)) = some (textR (some (t, n + w)) (j + 1))
            unfold textR
            simp only [Option.some.injEq, Prod.mk.injEq, true_and, and_true]
            omega
    · rw [modcertref03_text.l0, if_neg (by rw [ofL_size, List.length_cons]; omega), modcertref03_text.j1, if_neg (by decide), if_pos (by rw [ofL_size, List.length_cons]; omega), List.drop_eq_nil_of_le (by omega)]
      cases m with
      | zero => rfl
      | succ m => rfl
theorem text_some (l : List UInt8) (hl : l.length ≤ 100000) (k : Nat) (hk : 2 * l.length + 10 ≤ k) : modcertref03_text.f k (ofL (34 :: l)) = some (textR (litL l.length l []) 1) :=
  text_loop 34 l hl l.length 0 [] k (by omega) (by omega) (by simp) hk
theorem span_loop (L : List UInt8) (hL : L.length ≤ 200000) (b : Bool) : ∀ (d i k : Nat), i + d = L.length → d < k → modcertref03_span.l0 k (ofL L) b (i : Int) = some ((i + (runL (if b then isDigit else isWord) (L.drop i)).length : Nat) : Int)
  | 0, i, k, hi, hk => by
    obtain ⟨k, rfl⟩ : ∃ q, k = q + 1 := ⟨k - 1, by omega⟩
    rw [modcertref03_span.l0, if_neg (by rw [ofL_size]; omega), List.drop_eq_nil_of_le (by omega)]; rfl
  | d + 1, i, k, hi, hk => by
    obtain ⟨k, rfl⟩ : ∃ q, k = q + 1 := ⟨k - 1, by omega⟩
    have hlt : i < L.length := by omega
    have ih := span_loop L hL b d (i + 1) k (by omega) (by omega)
    rw [modcertref03_span.l0, if_pos (by rw [ofL_size]; omega), if_pos (by omega), bt_list hlt, ref_digit, ref_word, Option.bind_some, Option.bind_some, wr64 (by omega), show ((i : Int) + 1) = ((i + 1 : Nat) : Int) by omega, ih, List.drop_eq_getElem_cons hlt]
    have e : ∀ n : Nat, i + 1 + n = i + (n + 1) := fun n => by omega
    cases hd : isDigit ((L[i]'hlt).toNat : Int)
    · cases b
      · simp only [Bool.false_eq_true, if_false]
        cases hw : isWord ((L[i]'hlt).toNat : Int)
        · rw [runL_cons_neg hw]; simp
        · rw [runL_cons_pos hw, if_pos rfl, List.length_cons, e]
      · simp only [if_true, Bool.false_eq_true, if_false]
        rw [runL_cons_neg hd]; rfl
    · have hw : isWord ((L[i]'hlt).toNat : Int) = true := by
        unfold isWord; rw [hd]; simp
      cases b
      · simp only [Bool.false_eq_true, if_false, if_true]
        rw [runL_cons_pos hw, List.length_cons, e]
      · simp only [if_true]
        rw [runL_cons_pos hd, List.length_cons, e]
theorem span_some (L : List UInt8) (hL : L.length ≤ 200000) (b : Bool) (k : Nat) (hk : L.length < k) : modcertref03_span.f k (ofL L) b = some ((runL (if b then isDigit else isWord) L).length : Int) := by
  have h := span_loop L hL b L.length 0 k (by omega) hk
  rw [List.drop_zero, Nat.zero_add] at h
  exact h
theorem syms_are : modcertref03_Symbols.f = some (longSyms ++ oneSyms.data.toList.map fun c => (⟨#[c]⟩ : ByteArray)) := by kernel_rfl
theorem begins_take (L : List UInt8) (y : ByteArray) : (y.size ≤ L.length ∧ (ofL (L.take y.size)).toList = y.toList) ↔ begins (ofL L) y = true := by
  rw [begins_list, List.isPrefixOf_iff_prefix, toList_ofL, Lib.toList_data]
  have hy : y.data.toList.length = y.size := rfl
  constructor
  · rintro ⟨h1, h2⟩
    exact ⟨L.drop y.size, by rw [← h2, List.take_append_drop]⟩
  · rintro ⟨r, hr⟩
    refine ⟨by rw [← hr, List.length_append]; omega, ?_⟩
    rw [← hr, ← hy, List.take_left]
def symR (r : Option ByteArray) : Int × ByteArray × Int × Int × Int := match r with | some y => (6, y, 0, (y.size : Int), 0) | none => (0, ⟨#[]⟩, 0, 0, 3)
theorem sym_loop (L : List UInt8) (xs : List ByteArray) (hx : xs.length ≤ 1000) : ∀ (d i k : Nat), i + d = xs.length → d < k → modcertref03_token.l0 k (ofL L) xs (i : Int) = some (symR ((xs.drop i).find? (begins (ofL L))))
  | 0, i, k, hi, hk => by
    obtain ⟨k, rfl⟩ : ∃ q, k = q + 1 := ⟨k - 1, by omega⟩
    rw [modcertref03_token.l0, if_neg (by omega), List.drop_eq_nil_of_le (by omega)]; rfl
  | d + 1, i, k, hi, hk => by
    obtain ⟨k, rfl⟩ : ∃ q, k = q + 1 := ⟨k - 1, by omega⟩
    have hlt : i < xs.length := by omega
    have ih := sym_loop L xs hx d (i + 1) k (by omega) (by omega)
    have hb := begins_take L (xs[i]'hlt)
    rw [modcertref03_token.l0, if_pos (by omega), if_pos (by omega), rd_str hlt, wr64 (by omega), show ((i : Int) + 1) = ((i + 1 : Nat) : Int) by omega, ih, List.drop_eq_getElem_cons hlt, List.find?_cons, ofL_size, ofL_head]
    generalize xs[i]'hlt = y at *
    cases hB : begins (ofL L) y
    · by_cases hs : y.size ≤ L.length
      · rw [if_pos (by omega), if_pos (by omega), if_pos (by omega), if_neg (fun h => by rw [hb.1 ⟨hs, h⟩] at hB; cases hB)]
      · rw [if_neg (by omega)]
    · obtain ⟨h1, h2⟩ := hb.2 hB
      rw [if_pos (by omega), if_pos (by omega), if_pos (by omega), if_pos h2]; rfl
theorem index_mem (c : UInt8) : ∀ l : List UInt8, 0 ≤ Lib.indexByte l c ↔ c ∈ l
  | [] => by simp [Lib.indexByte]
  | b :: l => by
    have ih := index_mem c l
    have hge := Lib.indexByte_ge l c
    unfold Lib.indexByte
    by_cases hb : b = c
    · subst hb; simp
    · rw [if_neg (by simpa using hb)]
      split
      · rename_i hm
        have hm : Lib.indexByte l c = -1 := by simpa using hm
        rw [hm] at ih
        simp [Ne.symm hb]
        intro h; have := ih.2 h; omega
      · simp only [List.mem_cons, Ne.symm hb, false_or]
        rw [← ih]
        rename_i hm
        have hm : Lib.indexByte l c ≠ -1 := by simpa using hm
        omega
theorem find_one (c : UInt8) (l : List UInt8) : ∀ xs : List UInt8, (xs.map fun c => (⟨#[c]⟩ : ByteArray)).find? (begins (ofL (c :: l))) = if c ∈ xs then some ⟨#[c]⟩ else none
  | [] => by simp
  | x :: xs => by
    have ih := find_one c l xs
    have hb : begins (ofL (c :: l)) ⟨#[x]⟩ = (x == c) := by
      rw [begins_list]; simp [List.isPrefixOf]
    rw [List.map_cons, List.find?_cons, hb, ih]
    by_cases hx : x = c
    · subst hx; simp
    · rw [beq_eq_false_iff_ne.2 hx]
      simp [Ne.symm hx]
theorem sym_some (c : UInt8) (l : List UInt8) : symR ((longSyms ++ oneSyms.data.toList.map fun c => (⟨#[c]⟩ : ByteArray)).find? (begins (ofL (c :: l)))) = if (symbolOf (ofL (c :: l))).size = 0 then (0, ⟨#[]⟩, 0, 0, 3) else (6, symbolOf (ofL (c :: l)), 0, ((symbolOf (ofL (c :: l))).size : Int), 0) := by
  rw [List.find?_append, find_one]
  unfold symbolOf
  cases hf : longSyms.find? (begins (ofL (c :: l))) with
  | some y =>
    have hy : y.size ≠ 0 := by
      have h : (longSyms.all fun x => decide (x.size ≠ 0)) = true := by kernel_rfl
      have := List.all_eq_true.1 h y (List.mem_of_find?_eq_some hf)
      simpa using this
    simp only [Option.some_or]
    rw [if_neg hy]; rfl
  | none =>
    simp only [Option.none_or]
    have hb : (bt (ofL (c :: l)) 0).toNat.toUInt8 = c := by
      rw [bt_cons0, Int.toNat_natCast]; simp
    rw [hb, ofL_size, List.length_cons]
    have hv : (if 0 < l.length + 1 ∧ 0 ≤ Lib.indexByte oneSyms.data.toList c then (ofL (c :: l)).extract 0 1 else (⟨#[]⟩ : ByteArray)) = if c ∈ oneSyms.data.toList then ⟨#[c]⟩ else ⟨#[]⟩ := by
      by_cases hm : c ∈ oneSyms.data.toList
      · rw [if_pos hm, if_pos ⟨by omega, (index_mem c _).2 hm⟩, ofL_head]; rfl
      · rw [if_neg hm, if_neg (fun h => hm ((index_mem c _).1 h.2))]
    rw [hv]
    by_cases hm : c ∈ oneSyms.data.toList
    · rw [if_pos hm, if_pos hm]; rfl
    · rw [if_neg hm, if_neg hm]; rfl
/-- what the reference's token answers of a list: an error just where the program's does, and else the same token. -/
theorem token_some (c : UInt8) (l : List UInt8) (hl : l.length ≤ 100000) (k : Nat) (hk : 2 * l.length + 60 ≤ k) :
    ∃ a b n, modcertref03_token.f k (ofL (c :: l)) = some (a, b, 0, n, (nextL (c :: l)).2.2.2) ∧ ((nextL (c :: l)).2.2.2 = 0 → a = (nextL (c :: l)).1 ∧ b = (nextL (c :: l)).2.1 ∧ n = (((nextL (c :: l)).2.2.1 : Nat) : Int)) := by
  obtain ⟨k, rfl⟩ : ∃ q, k = q + 1 := ⟨k - 1, by omega⟩
  have hc := byte_range c
  unfold modcertref03_token.f
  rw [if_pos (by rw [ofL_size, List.length_cons]; omega), bt_cons0, nextL_cons]
  by_cases h34 : c.toNat = 34
  · obtain rfl : c = 34 := UInt8.toNat_inj.1 h34
    rw [if_pos (by decide), text_some l hl _ (by omega), Option.bind_some, if_neg (by decide), if_neg (by decide), if_pos (by decide)]
    cases litL l.length l [] with
    | none => exact ⟨_, _, _, rfl, fun h => by cases h⟩
    | some x =>
      obtain ⟨t, m⟩ := x
      refine ⟨_, _, _, rfl, fun _ => ⟨rfl, rfl, ?_⟩⟩
      show ((1 + m : Nat) : Int) = ((m + 1 : Nat) : Int)
      omega
  · rw [if_neg (by omega), ref_digit, Option.bind_some]
    by_cases hd : isDigit (c.toNat : Int) = true
    · have hnw : ¬ (isSmall (c.toNat : Int) || isCapital (c.toNat : Int)) = true := by
        have := digit_range hd
        unfold isSmall isCapital
        simp; omega
      have hsp := span_some (c :: l) (by rw [List.length_cons]; omega) true (k + 1) (by rw [List.length_cons]; omega)
      rw [if_pos hd, hsp, Option.bind_some, if_neg hnw, if_pos hd]
      simp only [if_true]
      have hle := runL_le isDigit (c :: l)
      have htk := runL_take isDigit (c :: l)
      rw [List.length_cons] at hle
      generalize runL isDigit (c :: l) = D at *
      have hfin : ∀ (q : Prop) [Decidable q], (¬ q) → some ((3 : Int), (ofL (c :: l)).extract 0 ((D.length : Int)).toNat, (0 : Int), (D.length : Int), (0 : Int)) = some (3, ofL D, 0, (D.length : Int), 0) := fun q _ _ => by
        rw [Int.toNat_natCast, ofL_head, htk]
      have hcond : (((c :: l).drop D.length).head?.any fun d => isWord d.toNat) = true ↔ (D.length < l.length + 1 ∧ isWord (bt (ofL (c :: l)) (D.length : Int)) = true) := by
        by_cases hlt : D.length < l.length + 1
        · have hlt' : D.length < (c :: l).length := by rw [List.length_cons]; exact hlt
          rw [List.drop_eq_getElem_cons hlt', bt_list hlt']
          simp [hlt]
        · rw [List.drop_eq_nil_of_le (by rw [List.length_cons]; omega)]
          simp [hlt]
      by_cases c1 : 19 < D.length
      · rw [if_pos (by omega), if_pos (.inl c1)]
        exact ⟨_, _, _, rfl, fun h => by cases h⟩
      · rw [if_neg (by omega)]
        have rest : ¬ (1 < D.length ∧ c.toNat = 48) → ∃ a b n, (if (D.length : Int) < ((ofL (c :: l)).size : Int) then (if 0 ≤ (D.length : Int) then ((modcertref03_word.f (bt (ofL (c :: l)) (D.length : Int))).bind fun t194 => (if t194 = true then (some ((0 : Int), (⟨#[]⟩ : ByteArray), (0 : Int), (0 : Int), (3 : Int))) else (if (D.length : Int) ≤ ((ofL (c :: l)).size : Int) then (some (3, (ofL (c :: l)).extract 0 (D.length : Int).toNat, 0, (D.length : Int), 0)) else (none)))) else (none)) else (if 0 ≤ (D.length : Int) then (if (D.length : Int) ≤ ((ofL (c :: l)).size : Int) then (some (3, (ofL (c :: l)).extract 0 (D.length : Int).toNat, 0, (D.length : Int), 0)) else (none)) else (none))) = some (a, b, 0, n, (if 19 < D.length ∨ (1 < D.length ∧ c.toNat = 48) ∨ (((c :: l).drop D.length).head?.any fun d => isWord d.toNat) = true then ((3 : Int), ofL D, 0, (3 : Int)) else (3, ofL D, D.length, 0)).2.2.2) ∧ ((if 19 < D.length ∨ (1 < D.length ∧ c.toNat = 48) ∨ (((c :: l).drop D.length).head?.any fun d => isWord d.toNat) = true then ((3 : Int), ofL D, 0, (3 : Int)) else (3, ofL D, D.length, 0)).2.2.2 = 0 → a = 3 ∧ b = ofL D ∧ n = (((if 19 < D.length ∨ (1 < D.length ∧ c.toNat = 48) ∨ (((c :: l).drop D.length).head?.any fun d => isWord d.toNat) = true then ((3 : Int), ofL D, 0, (3 : Int)) else (3, ofL D, D.length, 0)).2.2.1 : Nat) : Int)) := by
          intro hn
          rw [ofL_size, List.length_cons]
          by_cases hlt : D.length < l.length + 1
          · rw [if_pos (by omega), if_pos (by omega), ref_word, Option.bind_some]
            by_cases hw : isWord (bt (ofL (c :: l)) (D.length : Int)) = true
            · rw [if_pos hw, if_pos (.inr (.inr (hcond.2 ⟨hlt, hw⟩)))]
              exact ⟨_, _, _, rfl, fun h => by cases h⟩
            · have hno : ¬ (19 < D.length ∨ (1 < D.length ∧ c.toNat = 48) ∨ (((c :: l).drop D.length).head?.any fun d => isWord d.toNat) = true) := by
                rintro (h | h | h)
                · exact c1 h
                · exact hn h
                · exact hw (hcond.1 h).2
              rw [if_neg hw, if_pos (by omega), if_neg hno, Int.toNat_natCast, ofL_head, htk]
              exact ⟨_, _, _, rfl, fun _ => ⟨rfl, rfl, rfl⟩⟩
          · have hno : ¬ (19 < D.length ∨ (1 < D.length ∧ c.toNat = 48) ∨ (((c :: l).drop D.length).head?.any fun d => isWord d.toNat) = true) := by
              rintro (h | h | h)
              · exact c1 h
              · exact hn h
              · exact hlt (hcond.1 h).1
            rw [if_neg (by omega), if_pos (by omega), if_pos (by omega), if_neg hno, Int.toNat_natCast, ofL_head, htk]
            exact ⟨_, _, _, rfl, fun _ => ⟨rfl, rfl, rfl⟩⟩
        by_cases c2 : 1 < D.length
        · rw [if_pos (by omega)]
          by_cases c3 : c.toNat = 48
          · rw [if_pos (by omega), if_pos (.inr (.inl ⟨c2, c3⟩))]
            exact ⟨_, _, _, rfl, fun h => by cases h⟩
          · rw [if_neg (by omega)]
            obtain ⟨a, b, n, h1, h2⟩ := rest (fun h => c3 h.2)
            refine ⟨a, b, n, h1, fun h => ?_⟩
            obtain ⟨g1, g2, g3⟩ := h2 h
            refine ⟨?_, ?_, g3⟩
            · rw [g1]; split <;> rfl
            · rw [g2]; split <;> rfl
        · rw [if_neg (by omega)]
          obtain ⟨a, b, n, h1, h2⟩ := rest (fun h => c2 h.1)
          refine ⟨a, b, n, h1, fun h => ?_⟩
          obtain ⟨g1, g2, g3⟩ := h2 h
          refine ⟨?_, ?_, g3⟩
          · rw [g1]; split <;> rfl
          · rw [g2]; split <;> rfl
    · rw [if_neg hd, ref_small, Option.bind_some, if_neg (show ¬ isDigit (c.toNat : Int) = true from hd), if_neg h34]
      by_cases hw : (isSmall (c.toNat : Int) || isCapital (c.toNat : Int)) = true
      · have hj : (if isSmall (c.toNat : Int) = true then modcertref03_token.j0 (k + 1) (ofL (c :: l)) true else ((modcertref03_capital.f (c.toNat : Int)).bind fun t197 => (modcertref03_token.j0 (k + 1) (ofL (c :: l)) t197))) = modcertref03_token.j0 (k + 1) (ofL (c :: l)) true := by
          rw [ref_capital, Option.bind_some]
          cases h1 : isSmall (c.toNat : Int)
          · rw [h1, Bool.false_or] at hw
            rw [if_neg (by simp), hw]
          · rw [if_pos rfl]
        have hsp := span_some (c :: l) (by rw [List.length_cons]; omega) false k (by rw [List.length_cons]; omega)
        have hle := runL_le isWord (c :: l)
        have htk := runL_take isWord (c :: l)
        have hrun : (runL isWord (c :: l)).all (fun d => isWord (d.toNat : Int)) = true := by
          unfold runL; exact List.all_takeWhile
        rw [List.length_cons] at hle
        rw [hj, if_pos hw, modcertref03_token.j0, if_pos rfl, hsp, Option.bind_some, kws_some, Option.bind_some]
        simp only [Bool.false_eq_true, if_false]
        generalize runL isWord (c :: l) = D at *
        have hsz : (ofL D).size ≤ 1000000000 := by rw [ofL_size]; omega
        have hcl : ∀ x ∈ (ofL D).data.toList, x ≠ 32 := word_blank _ (by rw [allB_list]; exact hrun)
        rw [if_pos (by omega), if_pos (by rw [ofL_size, List.length_cons]; omega), Int.toNat_natCast, ofL_head, htk, Has_some _ _ (by rw [kws_len]; decide) k (by rw [kws_len]; omega), Option.bind_some, refName_some _ hsz k (by rw [ofL_size]; omega) (by omega), refType_some _ hsz k (by rw [ofL_size]; omega), kwB_words _ hcl]
        simp only [Option.bind_some]
        show ∃ a b n, (if decide ((ofL D).data.toList ∈ kwWords) = true then _ else _) = _ ∧ _
        split
        · exact ⟨_, _, _, rfl, fun _ => ⟨rfl, rfl, rfl⟩⟩
        · split
          · exact ⟨_, _, _, rfl, fun _ => ⟨rfl, rfl, rfl⟩⟩
          · split
            · exact ⟨_, _, _, rfl, fun _ => ⟨rfl, rfl, rfl⟩⟩
            · exact ⟨_, _, _, rfl, fun h => by cases h⟩
      · have h12 : isSmall (c.toNat : Int) = false ∧ isCapital (c.toNat : Int) = false := by
          cases h1 : isSmall (c.toNat : Int) <;> cases h2 : isCapital (c.toNat : Int) <;> simp_all
        rw [if_neg hw, h12.1, if_neg (show ¬ (false = true) by decide), ref_capital, Option.bind_some, h12.2, modcertref03_token.j0, if_neg (by decide), syms_are, Option.bind_some]
        have hs := sym_loop (c :: l) (longSyms ++ oneSyms.data.toList.map fun c => (⟨#[c]⟩ : ByteArray)) (by decide) 25 0 k (by decide) (by omega)
        rw [List.drop_zero, sym_some] at hs
        refine (show _ from ?_ : ∃ a b n, modcertref03_token.l0 k (ofL (c :: l)) (longSyms ++ oneSyms.data.toList.map fun c => (⟨#[c]⟩ : ByteArray)) ((0 : Nat) : Int) = some (a, b, 0, n, _) ∧ _)
        rw [hs]
        split
        · exact ⟨_, _, _, rfl, fun h => by cases h⟩
        · exact ⟨_, _, _, rfl, fun _ => ⟨rfl, rfl, rfl⟩⟩
end
section
open Go.RowKit Go.Proofs.YtmndicibakaceaaDoorW.PrintWords Go.Proofs.YtmndicibakaceaaDoorW.PrintLast Go.Proofs.YtmndicibakaceaaDoorW.PrintMore
theorem u8_lit (c : UInt8) (n : Nat) (hn : n < 256) : (c.toNat : Int) = (n : Int) ↔ c = UInt8.ofNat n := by
  constructor
  · intro h
    have h2 : c.toNat = n := by omega
    rw [← h2, UInt8.ofNat_toNat]
  · intro h
    rw [h, UInt8.toNat_ofNat', Nat.mod_eq_of_lt hn]
theorem skip_j1T (s : ByteArray) (o i j : Int) (c : Int) (R : Option Int) (k : Nat) (hj : wrap64 (i + 1) = j) (ih : modcertref03_skip.l0 k s o true j = R) : modcertref03_skip.j1 (k + 1) s o false i c true = R := by
  rw [modcertref03_skip.j1, if_pos rfl, hj, ih]
theorem skip_j1F (s : ByteArray) (o i j : Int) (c : UInt8) (R : Int) (k : Nat) (hj : wrap64 (i + 1) = j) (ih : modcertref03_skip.l0 k s o false j = some R) :
    modcertref03_skip.j1 (k + 1) s o false i (c.toNat : Int) false = some (if c = 32 ∨ c = 9 ∨ c = 10 ∨ c = 13 then R else i) := by
  rw [modcertref03_skip.j1, if_neg (by decide), hj, ih]
  have q32 : (c.toNat : Int) = 32 ↔ c = 32 := u8_lit c 32 (by decide)
  have q9 : (c.toNat : Int) = 9 ↔ c = 9 := u8_lit c 9 (by decide)
  have q10 : (c.toNat : Int) = 10 ↔ c = 10 := u8_lit c 10 (by decide)
  have q13 : (c.toNat : Int) = 13 ↔ c = 13 := u8_lit c 13 (by decide)
  by_cases a1 : c = 32
  · rw [if_pos (q32.2 a1), if_pos (.inl a1)]
  · rw [if_neg (fun h => a1 (q32.1 h))]
    by_cases a2 : c = 9
    · rw [if_pos (q9.2 a2), if_pos (.inr (.inl a2))]
    · rw [if_neg (fun h => a2 (q9.1 h))]
      by_cases a3 : c = 10
      · rw [if_pos (q10.2 a3), if_pos (.inr (.inr (.inl a3)))]
      · rw [if_neg (fun h => a3 (q10.1 h))]
        by_cases a4 : c = 13
        · rw [if_pos (q13.2 a4), if_pos (.inr (.inr (.inr a4)))]
        · rw [if_neg (fun h => a4 (q13.1 h)), if_neg (by rintro (h | h | h | h) <;> contradiction)]
theorem skip_step (s : ByteArray) (hs : s.size ≤ 100000) (o i k : Nat) (b : Bool) (c : UInt8) (l : List UInt8) (hlt : o + i < s.size) (hb : bt s ((o + i : Nat) : Int) = (c.toNat : Int)) (hl : s.data.toList.drop (o + i + 1) = l)
    (ih0 : ∀ b', modcertref03_skip.l0 k s (o : Int) b' ((i + 1 : Nat) : Int) = some ((i + 1 + skipN b' l : Nat) : Int)) (ih1 : ∀ b', modcertref03_skip.l0 (k + 1) s (o : Int) b' ((i + 1 : Nat) : Int) = some ((i + 1 + skipN b' l : Nat) : Int)) :
    modcertref03_skip.l0 (k + 2) s (o : Int) b (i : Int) = some ((i + skipN b (c :: l) : Nat) : Int) := by
  have e1 : wrap64 ((o : Int) + (i : Int)) = ((o + i : Nat) : Int) := (wr64 (by omega)).trans (by omega)
  have e2 : wrap64 ((i : Int) + 1) = ((i + 1 : Nat) : Int) := (wr64 (by omega)).trans (by omega)
  have e3 : wrap64 (((o + i : Nat) : Int) + 1) = ((o + i + 1 : Nat) : Int) := (wr64 (by omega)).trans (by omega)
  have q10 : (c.toNat : Int) = 10 ↔ c = 10 := u8_lit c 10 (by decide)
  have q47 : (c.toNat : Int) = 47 ↔ c = 47 := u8_lit c 47 (by decide)
  rw [modcertref03_skip.l0, e1, if_pos (by omega), if_pos (by omega), hb]
  cases b with
  | false =>
    rw [if_neg (by decide), e3, skipN_f]
    have jT := skip_j1T s (o : Int) (i : Int) _ (c.toNat : Int) _ k e2 (ih0 true)
    have jF := skip_j1F s (o : Int) (i : Int) _ c _ k e2 (ih0 false)
    have jF' : modcertref03_skip.j1 (k + 1) s (o : Int) false (i : Int) (c.toNat : Int) false = some ((i + (if c = 32 ∨ c = 9 ∨ c = 10 ∨ c = 13 then 1 + skipN false l else 0) : Nat) : Int) := by
      rw [jF]
      split
      · congr 1; omega
      · rfl
    by_cases h47 : c = 47
    · rw [if_pos (q47.2 h47)]
      by_cases hlt2 : o + i + 1 < s.size
      · obtain ⟨c2, l2, hd2, hb2, hl2⟩ := drop_cons (s := s) (i := o + i + 1) hlt2
        rw [hl] at hd2
        rw [if_pos (by omega), if_pos (by omega), hb2]
        have q2 : (c2.toNat : Int) = 47 ↔ c2 = 47 := u8_lit c2 47 (by decide)
        by_cases h2 : c2 = 47
        · rw [show ((c2.toNat : Int) == 47) = true from beq_iff_eq.2 (q2.2 h2), jT, if_pos ⟨h47, by rw [hd2, h2]; rfl⟩]
          congr 1; omega
        · rw [show ((c2.toNat : Int) == 47) = false from beq_eq_false_iff_ne.2 (fun h => h2 (q2.1 h)), jF', if_neg (show ¬ (c = 47 ∧ l.head? = some 47) from fun h => h2 (by have h5 := h.2; rw [hd2] at h5; simpa using h5))]
      · rw [if_neg (by omega), jF', if_neg (show ¬ (c = 47 ∧ l.head? = some 47) from fun h => by
          have h5 : l = [] := by rw [← hl]; exact List.drop_eq_nil_of_le (by show s.size ≤ o + i + 1; omega)
          have h2 := h.2
          rw [h5] at h2; simp at h2)]
    · rw [if_neg (fun h => h47 (q47.1 h)), jF', if_neg (show ¬ (c = 47 ∧ l.head? = some 47) from fun h => h47 h.1)]
  | true =>
    rw [if_pos rfl, e2, ih1, skipN_t]
    by_cases h10 : c = 10
    · rw [if_pos h10, show ((c.toNat : Int) != 10) = false from bne_eq_false_iff_eq.2 (q10.2 h10)]
      congr 1; omega
    · rw [if_neg h10, show ((c.toNat : Int) != 10) = true from bne_iff_ne.2 (fun h => h10 (q10.1 h))]
      congr 1; omega
theorem skip_loop (s : ByteArray) (hs : s.size ≤ 100000) (o : Nat) : ∀ (d i k : Nat) (b : Bool), o + i + d = s.size → 2 * d + 2 ≤ k →
    modcertref03_skip.l0 k s (o : Int) b (i : Int) = some ((i + skipN b (s.data.toList.drop (o + i)) : Nat) : Int) := by
  intro d
  induction d with
  | zero =>
    intro i k b hi hk
    obtain ⟨k, rfl⟩ : ∃ q, k = q + 1 := ⟨k - 1, by omega⟩
    rw [modcertref03_skip.l0, wr64 (by omega), if_neg (by omega), List.drop_eq_nil_of_le (show s.data.toList.length ≤ o + i by show s.size ≤ o + i; omega)]
    cases b <;> rfl
  | succ d ih =>
    intro i k b hi hk
    obtain ⟨k, rfl⟩ : ∃ q, k = q + 2 := ⟨k - 2, by omega⟩
    obtain ⟨c, l, hd, hb, hl⟩ := drop_cons (s := s) (i := o + i) (by omega)
    have h0 : ∀ b', modcertref03_skip.l0 k s (o : Int) b' ((i + 1 : Nat) : Int) = some ((i + 1 + skipN b' l : Nat) : Int) := fun b' => by
      have h := ih (i + 1) k b' (by omega) (by omega)
      rwa [show o + (i + 1) = o + i + 1 by omega, hl] at h
    have h1 : ∀ b', modcertref03_skip.l0 (k + 1) s (o : Int) b' ((i + 1 : Nat) : Int) = some ((i + 1 + skipN b' l : Nat) : Int) := fun b' => by
      have h := ih (i + 1) (k + 1) b' (by omega) (by omega)
      rwa [show o + (i + 1) = o + i + 1 by omega, hl] at h
    rw [hd]
    exact skip_step s hs o i k b c l (by omega) hb hl h0 h1
theorem skip_some (s : ByteArray) (hs : s.size ≤ 100000) (o : Nat) (ho : o ≤ s.size) (k : Nat) (hk : 2 * s.size + 2 ≤ k) : modcertref03_skip.f k s (o : Int) = some ((skipN false (s.data.toList.drop o) : Nat) : Int) := by
  have h := skip_loop s hs o (s.size - o) 0 k false (by omega) (by omega)
  rw [Nat.add_zero, Nat.zero_add] at h
  exact h
theorem refLex_loop (s : ByteArray) (hs : s.size ≤ 100000) : ∀ (m i k : Nat) (acc : List S36), s.size - i < m → i ≤ s.size → acc.length ≤ i → m + 2 * s.size + 100 ≤ k →
    modcertref03_Lex.l0 k s acc (i : Int) = some (scanToks (toksL m (s.data.toList.drop i) i) acc)
  | 0, i, k, acc, h, _, _, _ => by omega
  | m + 1, i, k, acc, hm, hi, hacc, hk => by
    obtain ⟨k, rfl⟩ : ∃ q, k = q + 1 := ⟨k - 1, by omega⟩
    rw [modcertref03_Lex.l0]
    by_cases hlt : i < s.size
    · obtain ⟨c, l, hd, hb, hl⟩ := drop_cons (s := s) (i := i) hlt
      have hll : l.length = s.size - (i + 1) := by rw [← hl, List.length_drop]; rfl
      have hx : s.extract (i : Int).toNat s.size = ofL (c :: l) := by
        rw [Int.toNat_natCast, ext_ofL, List.take_of_length_le (by rw [List.length_drop]; exact Nat.le_refl _), hd]
      obtain ⟨a, b, n, ht, hok⟩ := token_some c l (by omega) k (by omega)
      rw [if_pos (by omega), if_pos (by omega), if_pos (by omega), hx, ht, Option.bind_some, hd, toksL, if_neg (List.cons_ne_nil c l)]
      by_cases h0 : (nextL (c :: l)).2.2.2 = 0
      · obtain ⟨rfl, rfl, rfl⟩ := hok h0
        have hpos := (next_pos h0).1
        have hn : nextTok s i = (⟨(nextL (c :: l)).1, (nextL (c :: l)).2.1, i⟩, ((i + (nextL (c :: l)).2.2.1 : Nat) : Int), 0) := by
          rw [next_list s i hlt, hd, h0]
        obtain ⟨n', h1, h2, h3⟩ := nextTok_end s i hlt _ _ hn
        have hle : i + (nextL (c :: l)).2.2.1 ≤ s.size := by omega
        have hsl := skipN_le false (s.data.toList.drop (i + (nextL (c :: l)).2.2.1))
        rw [List.length_drop] at hsl
        have hlen : s.data.toList.length = s.size := rfl
        simp only
        rw [if_pos h0, if_pos h0, if_pos (by omega), show wrap64 ((i : Int) + (((nextL (c :: l)).2.2.1 : Nat) : Int)) = ((i + (nextL (c :: l)).2.2.1 : Nat) : Int) by unfold wrap64; omega, skip_some s hs _ hle k (by omega), Option.bind_some, wr64 (by omega), scanToks, if_pos rfl, show (c :: l).drop (nextL (c :: l)).2.2.1 = s.data.toList.drop (i + (nextL (c :: l)).2.2.1) by rw [← List.drop_drop, hd], List.drop_drop,
          show ((i + (nextL (c :: l)).2.2.1 : Nat) : Int) + ((skipN false (s.data.toList.drop (i + (nextL (c :: l)).2.2.1)) : Nat) : Int) = ((i + (nextL (c :: l)).2.2.1 + skipN false (s.data.toList.drop (i + (nextL (c :: l)).2.2.1)) : Nat) : Int) by omega]
        exact refLex_loop s hs m (i + (nextL (c :: l)).2.2.1 + skipN false (s.data.toList.drop (i + (nextL (c :: l)).2.2.1))) k (acc ++ [⟨(nextL (c :: l)).1, (nextL (c :: l)).2.1, (i : Int)⟩]) (by omega) (by omega) (by rw [List.length_append]; show acc.length + 1 ≤ _; omega) (by omega)
      · simp only
        rw [if_neg h0, if_neg h0, scanToks, if_neg h0]
    · have hnil : s.data.toList.drop i = [] := List.drop_eq_nil_of_le (by show s.size ≤ i; omega)
      obtain rfl : i = s.size := by omega
      rw [if_neg (by omega), if_pos (by omega), hnil, toksL, if_pos rfl, scanToks, if_pos rfl, scanToks]
theorem refLex_some (s : ByteArray) (hs : s.size ≤ 60000) (k : Nat) (hk : 4 * s.size + 200 ≤ k) : modcertref03_Lex.f k s = lexer_Lex.f s := by
  have h := skip_some s (by omega) 0 (Nat.zero_le _) k (by omega)
  have hsl := skipN_le false s.data.toList
  have hlen : s.data.toList.length = s.size := rfl
  rw [List.drop_zero] at h
  rw [lex_some s hs]
  unfold modcertref03_Lex.f
  rw [if_neg (by omega), show (0 : Int) = ((0 : Nat) : Int) from rfl, h, Option.bind_some]
  exact refLex_loop s (by omega) (s.size + 1) _ k [] (by omega) (by omega) (by simp) (by omega)
theorem rd_tok {xs : List S36} {i : Nat} (h : i < xs.length) : rd_T36 xs (i : Int) = xs[i] := by simp [rd_T36, h]
theorem Same_loop (xs ys : List S36) (b : Bool) (hl : ys.length = xs.length) (hx : xs.length ≤ 1000000) (h : ∀ i (h1 : i < xs.length) (h2 : i < ys.length), xs[i].f0 = ys[i].f0 ∧ xs[i].f1 = ys[i].f1 ∧ (b = true → xs[i].f2 = ys[i].f2)) : ∀ (d i k : Nat), i + d = xs.length → d < k → modcertref03_Same.l0 k xs ys b (i : Int) = some true
  | 0, i, k, hi, hk => by
    obtain ⟨k, rfl⟩ : ∃ q, k = q + 1 := ⟨k - 1, by omega⟩
    rw [modcertref03_Same.l0, if_neg (by omega)]
  | d + 1, i, k, hi, hk => by
    obtain ⟨k, rfl⟩ : ∃ q, k = q + 1 := ⟨k - 1, by omega⟩
    have ih := Same_loop xs ys b hl hx h d (i + 1) k (by omega) (by omega)
    have h1 : i < xs.length := by omega
    have h2 : i < ys.length := by omega
    obtain ⟨e0, e1, e2⟩ := h i h1 h2
    rw [modcertref03_Same.l0, if_pos (by omega), if_pos (by omega), if_pos (by omega), rd_tok h1, rd_tok h2, if_pos e0, if_pos (by rw [e1]), wr64 (by omega), show ((i : Int) + 1) = ((i + 1 : Nat) : Int) by omega, ih]
    cases b
    · rfl
    · rw [if_pos rfl, if_pos (e2 rfl)]
theorem Same_refl (xs : List S36) (b : Bool) (hx : xs.length ≤ 1000000) (k : Nat) (hk : xs.length < k) : modcertref03_Same.f k xs xs b = some true := by
  unfold modcertref03_Same.f
  rw [if_pos rfl]
  exact Same_loop xs xs b rfl hx (fun _ _ _ => ⟨rfl, rfl, fun _ => rfl⟩) xs.length 0 k (by omega) hk
theorem scan_len : ∀ (l : List (S36 × Int)) (acc : List S36), (scanToks l acc).1.length ≤ acc.length + l.length
  | [], acc => by simp [scanToks]
  | (t, r) :: l, acc => by
    rw [scanToks]
    split
    · have := scan_len l (acc ++ [t])
      simp only [List.length_append, List.length_cons, List.length_nil] at *
      omega
    · simp
theorem toksL_len : ∀ (k : Nat) (l : List UInt8) (o : Nat), (toksL k l o).length ≤ k
  | 0, _, _ => Nat.le_refl _
  | k + 1, l, o => by
    unfold toksL
    split
    · simp
    · split
      · have := toksL_len k ((l.drop (nextL l).2.2.1).drop (skipN false (l.drop (nextL l).2.2.1))) (o + (nextL l).2.2.1 + skipN false (l.drop (nextL l).2.2.1))
        rw [List.length_cons]; omega
      · simp
theorem LexerTokens : modcertlaw03_LexerTokens.Pure := by
  intro a0 h0
  by_cases hbig : a0.size ≤ 1000
  · refine ⟨10000, ?_⟩
    have hr := refLex_some a0 (by omega) 9999 (by omega)
    have hL := lex_some a0 (by omega)
    have hlen := scan_len (toksL (a0.size + 1) (a0.data.toList.drop (skipN false a0.data.toList)) (skipN false a0.data.toList)) []
    have htl := toksL_len (a0.size + 1) (a0.data.toList.drop (skipN false a0.data.toList)) (skipN false a0.data.toList)
    rw [List.length_nil] at hlen
    unfold modcertlaw03_LexerTokens.f modcertlaw03_awake.f
    rw [Option.bind_some, if_pos rfl, if_neg (by omega), modcertlaw03_LexerTokens.j0, if_neg (by decide), hr, hL, Option.bind_some, Option.bind_some, Same_refl _ _ (by omega) _ (by omega), Option.bind_some, if_pos rfl, if_pos rfl]
    simp
  · refine ⟨10, ?_⟩
    unfold modcertlaw03_LexerTokens.f modcertlaw03_awake.f
    rw [Option.bind_some, if_pos rfl, if_pos (by omega), modcertlaw03_LexerTokens.j0]
    by_cases h2 : a0.size ≤ 65536
    · rw [decide_eq_true (by omega), if_pos rfl]
    · have hL : lexer_Lex.f a0 = some ([], 0, 7) := by
        unfold lexer_Lex.f lexOf
        rw [if_pos (by omega), if_pos (by omega)]
      have hR : modcertref03_Lex.f 9 a0 = some ([], 0, 7) := by
        unfold modcertref03_Lex.f
        rw [if_pos (by omega)]
      rw [decide_eq_false (by omega), if_neg (by decide), hL, Option.bind_some, hR, Option.bind_some]
      rfl
end
end Go.Proofs.YtmndicibakaceaaDoor.Pr
