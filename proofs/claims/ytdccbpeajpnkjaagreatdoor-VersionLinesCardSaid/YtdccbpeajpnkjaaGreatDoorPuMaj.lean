/- The parts of a text between a byte, told of lists of bytes; no condition. -/
import Derived.Lib.SplitLaws
import Derived.Test.YtdccbpeajpnkjaaGreatDoorGlob
import Derived.Test.YtdccbpeajpnkjaaGreatDoorWMore
import Derived.Lib.Bytes2
import Derived.Lib.IndexBytes
import Derived.Test.YtdccbpeajpnkjaaGreatDoorExtB
import Derived.Test.YtdccbpeajpnkjaaGreatDoorExtK
import Derived.Test.YtdccbpeajpnkjaaGreatDoorPr5
import Derived.Test.YtdccbpeajpnkjaaGreatDoorPr5
namespace Go.Proofs.YtdccbpeajpnkjaaGreatDoor.Pr
open Go.RowKit Go.Proofs.YtdccbpeajpnkjaaGreatDoorW.PrintWords Go.Proofs.YtdccbpeajpnkjaaGreatDoorW.PrintLast Go.Proofs.YtdccbpeajpnkjaaGreatDoorW.PrintMore
/-- a byte put ahead of the first part. -/
def consHead (x : UInt8) : List (List UInt8) → List (List UInt8)
  | [] => [[x]]
  | h :: t => (x :: h) :: t
/-- the parts between the bytes c. -/
def splitL (c : UInt8) : List UInt8 → List (List UInt8)
  | [] => [[]]
  | x :: l => if x = c then [] :: splitL c l else consHead x (splitL c l)
theorem splitL_ne (c : UInt8) : ∀ l, splitL c l ≠ []
  | [] => by simp [splitL]
  | x :: l => by
    unfold splitL
    split
    · simp
    · cases splitL c l <;> simp [consHead]
theorem splitK_eq (c : UInt8) (k : Nat) (l : List UInt8) : Lib.splitK [c] 0 (k + 1) (c :: l) = [] :: Lib.splitK [c] 0 k l := by
  have h : Lib.index (c :: l) [c] = 0 := by rw [Lib.index]; simp [List.isPrefixOf]
  rw [Lib.splitK, h]; rfl
theorem splitK_ne (c x : UInt8) (hx : x ≠ c) : ∀ (k : Nat) (l : List UInt8), Lib.splitK [c] 0 k (x :: l) = consHead x (Lib.splitK [c] 0 k l)
  | 0, l => rfl
  | k + 1, l => by
    have hp : ([c] : List UInt8).isPrefixOf (x :: l) = false := by simp [List.isPrefixOf, Ne.symm hx]
    have hi : Lib.index (x :: l) [c] = if Lib.index l [c] == -1 then -1 else Lib.index l [c] + 1 := by rw [Lib.index, hp]; simp
    have hge := Lib.index_ge l [c]
    rw [Lib.splitK, Lib.splitK, hi]
    by_cases hm : Lib.index l [c] = -1
    · rw [hm]; rfl
    · rw [if_neg (show ¬ (Lib.index l [c] == -1) = true by simpa using hm), if_neg (by rw [beq_iff_eq]; omega)]
      obtain ⟨j, hj⟩ : ∃ j : Nat, Lib.index l [c] = j := ⟨(Lib.index l [c]).toNat, by omega⟩
      rw [hj, show ((j : Int) + 1).toNat = j + 1 by omega, Int.toNat_natCast]
      show _ = (x :: _) :: _
      simp only [List.length_cons, List.length_nil, Nat.add_zero, Nat.zero_add]
      rw [List.take_succ_cons, List.drop_succ_cons]
theorem splitK_list (c : UInt8) : ∀ l : List UInt8, Lib.splitK [c] 0 (l.count c) l = splitL c l
  | [] => rfl
  | x :: l => by
    unfold splitL
    by_cases hx : x = c
    · subst hx
      rw [if_pos rfl, List.count_cons_self, splitK_eq, splitK_list x l]
    · rw [if_neg hx, List.count_cons_of_ne (by simpa using hx), splitK_ne c x hx, splitK_list c l]
theorem splitB_list (c : UInt8) (s : ByteArray) : (Lib.splitB ⟨#[c]⟩ 0 (Lib.countB s ⟨#[c]⟩) s).map (·.data.toList) = splitL c s.data.toList := by
  rw [Lib.splitB_data]
  have h : Lib.countB s ⟨#[c]⟩ = s.data.toList.count c := by
    unfold Lib.countB
    exact Lib.count_one c s.data.toList
  rw [h]
  exact splitK_list c s.data.toList
end Go.Proofs.YtdccbpeajpnkjaaGreatDoor.Pr
/- Plain facts on bytes, words and names, told of lists. -/
namespace Go.Proofs.YtdccbpeajpnkjaaGreatDoor.Pr
open Go.RowKit Go.Proofs.YtdccbpeajpnkjaaGreatDoorW.PrintWords Go.Proofs.YtdccbpeajpnkjaaGreatDoorW.PrintLast Go.Proofs.YtdccbpeajpnkjaaGreatDoorW.PrintMore
theorem wr64 {n : Int} (h : -1000000000000 ≤ n ∧ n ≤ 1000000000000) : wrap64 n = n := by unfold wrap64; omega
theorem bt_natL (s : ByteArray) (k : Nat) : ∀ h : k < s.size, ((s[k]'h).toNat : Int) = bt s (k : Int) := fun h => by
  have := bt_at s (k : Int) (by simpa using h)
  simpa using this
theorem bt_cast (s : ByteArray) (k : Nat) (h : k < s.size) : bt s (k : Int) = ((s.data.toList[k]'(by simpa using h)).toNat : Int) := by
  rw [← bt_natL s k h]; rfl
def ofL (l : List UInt8) : ByteArray := ⟨l.toArray⟩
theorem ofL_list (l : List UInt8) : (ofL l).data.toList = l := by simp [ofL]
theorem ofL_size (l : List UInt8) : (ofL l).size = l.length := by simp [ofL, ByteArray.size]
theorem ofL_of (s : ByteArray) : ofL s.data.toList = s := by simp [ofL]
theorem ofL_eq {l : List UInt8} {s : ByteArray} (h : s.data.toList = l) : s = ofL l := by rw [← h, ofL_of]
theorem ext_ofL (s : ByteArray) (i e : Nat) : s.extract i e = ofL ((s.data.toList.drop i).take (e - i)) := by
  rw [Lib.extract_eq]; rfl
theorem drop_cons {s : ByteArray} {i : Nat} (h : i < s.size) : ∃ c l, s.data.toList.drop i = c :: l ∧ bt s (i : Int) = (c.toNat : Int) ∧ s.data.toList.drop (i + 1) = l :=
  ⟨_, _, List.drop_eq_getElem_cons h, bt_cast s i h, rfl⟩
def kwB (s : ByteArray) : Bool := Lib.contains kwList (32 :: (s.data.toList ++ [32]))
def isNameB (s : ByteArray) : Bool := decide (0 < s.size) && (decide (s.size ≤ 32) && (isSmall (bt s 0) && (allB isWord s && !kwB s)))
theorem toList_nil_iff (s : ByteArray) : s.toList = ([] : List UInt8) ↔ s.size = 0 := by
  rw [Lib.toList_data]
  have h4 : s.data.toList.length = s.size := rfl
  constructor
  · intro h; rw [h] at h4; simpa using h4.symm
  · intro h; exact List.eq_nil_of_length_eq_zero (by omega)
theorem IsName_some (s : ByteArray) (hs : s.size ≤ 1000000000) : lexer_IsName.f s = some (isNameB s) := by
  unfold lexer_IsName.f isNameB kwB
  by_cases h0 : s.size = 0
  · rw [if_pos ((toList_nil_iff s).2 h0), decide_eq_false (by omega)]; rfl
  · rw [if_neg (fun h => h0 ((toList_nil_iff s).1 h)), decide_eq_true (by omega)]
    by_cases h1 : s.size ≤ 32
    · rw [if_pos (by omega), if_pos (by omega), decide_eq_true h1, small_some]
      simp only [Option.bind_some, lexer_all_word.f, lexer_keyword.f, if_pos hs, if_pos (show s.size ≤ 9223372036854775807 by omega)]
      cases isSmall (bt s 0) <;> cases allB isWord s <;> simp
    · rw [if_neg (by omega), decide_eq_false h1]; rfl
end Go.Proofs.YtdccbpeajpnkjaaGreatDoor.Pr
/- What lexer.Major and lexer.IsPath answer, told of lists of bytes; condition: the length that each names. -/
namespace Go.Proofs.YtdccbpeajpnkjaaGreatDoor.Pr
open Go.RowKit Go.Proofs.YtdccbpeajpnkjaaGreatDoorW.PrintWords Go.Proofs.YtdccbpeajpnkjaaGreatDoorW.PrintLast Go.Proofs.YtdccbpeajpnkjaaGreatDoorW.PrintMore
theorem u8_of {c d : UInt8} (h : (c.toNat : Int) = (d.toNat : Int)) : c = d := UInt8.toNat_inj.1 (by omega)
theorem bt_list {l : List UInt8} {i : Nat} (h : i < l.length) : bt (ofL l) (i : Int) = ((l[i]'h).toNat : Int) := by
  rw [bt_cast _ _ (by rw [ofL_size]; exact h)]
  simp [ofL]
theorem allB_list (p : Int → Bool) (l : List UInt8) : allB p (ofL l) = l.all fun c => p (c.toNat : Int) := by
  unfold allB
  rw [Bool.eq_iff_iff, List.all_eq_true, List.all_eq_true]
  constructor
  · intro h c hc
    obtain ⟨i, hi, rfl⟩ := List.getElem_of_mem hc
    have := h i (List.mem_range.2 (by rw [ofL_size]; exact hi))
    rwa [bt_list hi] at this
  · intro h j hj
    have hj := List.mem_range.1 hj
    rw [ofL_size] at hj
    rw [bt_list hj]
    exact h _ (List.getElem_mem hj)
theorem digit_range {c : Int} (h : isDigit c = true) : 48 ≤ c ∧ c ≤ 57 := by
  unfold isDigit at h
  simpa using h
theorem toList_ofL (l : List UInt8) : (ofL l).toList = l := by rw [Lib.toList_data, ofL_list]
theorem rd_str {xs : List ByteArray} {i : Nat} (h : i < xs.length) : rdOf ByteArray.empty xs (i : Int) = xs[i] := by simp [rdOf, h]


/-! ### versions -/
def numL : Int → List UInt8 → Int
  | n, [] => n
  | n, c :: l => numL (10 * n + ((c.toNat : Int) - 48)) l
def verL : List UInt8 → Option Int
  | [] => none
  | c :: m => if c = 118 ∧ m ≠ [] ∧ m.length ≤ 3 ∧ ¬ (1 < m.length ∧ m.head? = some 48) ∧ (m.all fun c => isDigit (c.toNat : Int)) = true then some (numL 0 m) else none
theorem verL_cons (c : UInt8) (m : List UInt8) : verL (c :: m) = if c = 118 ∧ m ≠ [] ∧ m.length ≤ 3 ∧ ¬ (1 < m.length ∧ m.head? = some 48) ∧ (m.all fun c => isDigit (c.toNat : Int)) = true then some (numL 0 m) else none := rfl
theorem numL_range : ∀ (l : List UInt8) (n : Int), 0 ≤ n → (l.all fun c => isDigit (c.toNat : Int)) = true → 0 ≤ numL n l
  | [], n, h, _ => h
  | c :: l, n, h, ha => by
    rw [List.all_cons, Bool.and_eq_true] at ha
    have := digit_range ha.1
    exact numL_range l _ (by omega) ha.2
theorem version_loop (l : List UInt8) (hl : l.length ≤ 3) (ha : (l.all fun c => isDigit (c.toNat : Int)) = true) : ∀ (d i k : Nat) (n : Int), i + d = l.length → d < k → 0 ≤ n → ((i = 0 ∧ n ≤ 0) ∨ (i = 1 ∧ n ≤ 9) ∨ (i = 2 ∧ n ≤ 99) ∨ (3 ≤ i ∧ n ≤ 999)) →
    lexer_version.l0 k (ofL l) n (l.length : Int) (i : Int) = some (numL n (l.drop i), true)
  | 0, i, k, n, hi, hk, _, _ => by
    obtain ⟨k, rfl⟩ : ∃ q, k = q + 1 := ⟨k - 1, by omega⟩
    rw [lexer_version.l0, if_neg (by omega), List.drop_eq_nil_of_le (by omega)]; rfl
  | d + 1, i, k, n, hi, hk, h0, hb => by
    obtain ⟨k, rfl⟩ : ∃ q, k = q + 1 := ⟨k - 1, by omega⟩
    have hlt : i < l.length := by omega
    have hd := digit_range (List.all_eq_true.1 ha _ (List.getElem_mem hlt))
    rw [lexer_version.l0, if_pos (by omega), if_pos (by omega), if_pos (by rw [ofL_size]; omega), bt_list hlt, List.drop_eq_getElem_cons hlt, numL]
    generalize ((l[i]'hlt).toNat : Int) = c at *
    have e1 : (c - 48) % 256 = c - 48 := by omega
    rw [e1, show wrap64 (10 * n) = 10 * n by unfold wrap64; omega, show wrap64 (10 * n + (c - 48)) = 10 * n + (c - 48) by unfold wrap64; omega, show wrap64 ((i : Int) + 1) = ((i + 1 : Nat) : Int) by unfold wrap64; omega]
    exact version_loop l hl ha d (i + 1) k _ (by omega) (by omega) (by omega) (by omega)
theorem extract_one (c : UInt8) (m : List UInt8) : (ofL (c :: m)).extract 0 1 = ofL [c] ∧ (ofL (c :: m)).extract 1 (m.length + 1) = ofL m := by
  constructor
  · rw [ext_ofL, ofL_list]; rfl
  · rw [ext_ofL, ofL_list, List.drop_succ_cons, List.drop_zero, Nat.add_sub_cancel, List.take_length]
def verR (l : List UInt8) : Int × Bool := match verL l with | some n => (n, true) | none => (0, false)
theorem verR_nil : verR [] = (0, false) := rfl
theorem verR_pos {c : UInt8} {m : List UInt8} (h : c = 118 ∧ m ≠ [] ∧ m.length ≤ 3 ∧ ¬ (1 < m.length ∧ m.head? = some 48) ∧ (m.all fun c => isDigit (c.toNat : Int)) = true) : verR (c :: m) = (numL 0 m, true) := by
  unfold verR; rw [verL_cons, if_pos h]
theorem verR_neg {c : UInt8} {m : List UInt8} (h : ¬ (c = 118 ∧ m ≠ [] ∧ m.length ≤ 3 ∧ ¬ (1 < m.length ∧ m.head? = some 48) ∧ (m.all fun c => isDigit (c.toNat : Int)) = true)) : verR (c :: m) = (0, false) := by
  unfold verR; rw [verL_cons, if_neg h]
theorem cutPrefix_v (l : List UInt8) : strings_CutPrefix.f (ofL l) ⟨#[118]⟩ = some (match l with | [] => (ofL [], false) | c :: m => if c = 118 then (ofL m, true) else (ofL (c :: m), false)) := by
  have hs1 : (((⟨#[118]⟩ : ByteArray).size : Int)) = 1 := rfl
  unfold strings_CutPrefix.f stringslite_CutPrefix.f stringslite_HasPrefix.f
  rw [hs1]
  cases l with
  | nil =>
    rw [ofL_size, List.length_nil, if_neg (by decide)]
    rfl
  | cons c m =>
    obtain ⟨e1, e2⟩ := extract_one c m
    rw [ofL_size, List.length_cons, if_pos (by omega), if_pos (by omega), if_pos (by omega), if_pos (by omega), if_pos (by omega)]
    rw [show (1 : Int).toNat = 1 from rfl, e1, e2]
    simp only [Option.bind_some]
    have hb : ((ofL [c]).toList == (⟨#[118]⟩ : ByteArray).toList) = decide (c = 118) := by
      rw [Lib.toList_data, Lib.toList_data, ofL_list]
      show ([c] == [118]) = _
      rw [Bool.eq_iff_iff]; simp
    rw [hb]
    by_cases hc : c = 118
    · rw [if_pos (decide_eq_true hc), if_pos hc]; rfl
    · rw [if_neg (by simpa using hc), if_neg hc]; rfl
theorem all_digit_some (m : List UInt8) (hm : m.length ≤ 1000000) : lexer_all_digit.f (ofL m) = some (m.all fun c => isDigit (c.toNat : Int)) := by
  unfold lexer_all_digit.f
  rw [if_pos (by rw [ofL_size]; omega), allB_list]
theorem version_some (l : List UInt8) (hl : l.length ≤ 1000000) (k : Nat) (hk : 5 ≤ k) : lexer_version.f k (ofL l) = some (verR l) := by
  obtain ⟨k, rfl⟩ : ∃ q, k = q + 5 := ⟨k - 5, by omega⟩
  have jT : ∀ x, lexer_version.j0 (k + 5) x true = some (0, false) := fun x => by rw [lexer_version.j0, if_pos rfl]
  unfold lexer_version.f
  rw [cutPrefix_v]
  cases l with
  | nil => rfl
  | cons c m =>
    rw [List.length_cons] at hl
    simp only [Option.bind_some]
    by_cases hc : c = 118
    · rw [if_pos hc]
      simp only [if_true, ofL_size, toList_ofL]
      by_cases h0 : m = []
      · rw [if_pos h0, jT, verR_neg (fun h => h.2.1 h0)]
      · rw [if_neg h0]
        have hpos := List.length_pos_iff.2 h0
        by_cases h3 : m.length ≤ 3
        · rw [if_neg (by omega)]
          have hb0 : bt (ofL m) 0 = ((m[0]'hpos).toNat : Int) := bt_list hpos
          have hh : m.head? = some (m[0]'hpos) := by rw [List.head?_eq_getElem?, List.getElem?_eq_getElem hpos]
          have hz : (bt (ofL m) 0 = 48) ↔ m.head? = some 48 := by
            rw [hb0, hh]
            constructor
            · intro h; rw [u8_of (c := m[0]'hpos) (d := 48) h]
            · intro h; injection h with h; rw [h]; rfl
          have hdig := all_digit_some m (by omega)
          have main : ¬ (1 < m.length ∧ m.head? = some 48) → ((lexer_all_digit.f (ofL m)).bind fun t => lexer_version.j0 (k + 5) (ofL m) (!t)) = some (verR (c :: m)) := by
            intro hn
            rw [hdig, Option.bind_some]
            cases ha : m.all fun c => isDigit (c.toNat : Int)
            · rw [Bool.not_false, jT, verR_neg (fun h => by rw [ha] at h; exact absurd h.2.2.2.2 (by decide))]
            · rw [Bool.not_true, lexer_version.j0, if_neg (by decide), ofL_size, verR_pos ⟨hc, h0, h3, hn, ha⟩]
              exact version_loop m h3 ha m.length 0 _ 0 (by omega) (by omega) (by omega) (by omega)
          by_cases h1 : 1 < m.length
          · rw [if_pos (by omega), if_pos (by omega)]
            by_cases h48 : bt (ofL m) 0 = 48
            · rw [if_pos h48, jT, verR_neg (fun h => h.2.2.2.1 ⟨h1, hz.1 h48⟩)]
            · rw [if_neg h48]
              exact main (fun h => h48 (hz.2 h.2))
          · rw [if_neg (by omega)]
            exact main (fun h => h1 h.1)
        · rw [if_pos (by omega), jT, verR_neg (fun h => h3 h.2.2.1)]
    · rw [if_neg hc, if_neg (by simp), jT, verR_neg (fun h => hc h.1)]
/-! ### paths -/
/-- a part of a path. -/
def isSegB (s : ByteArray) : Bool := isNameB s && s.data.toList.all fun c => isLower (c.toNat : Int)
theorem all_lower_some (s : ByteArray) (hs : s.size ≤ 1000000) : lexer_all_lower.f s = some (s.data.toList.all fun c => isLower (c.toNat : Int)) := by
  unfold lexer_all_lower.f
  rw [if_pos (by omega), ← ofL_of s, allB_list, ofL_list]
theorem Major_loop (n : Int) (xs : List ByteArray) (hx : xs.length ≤ 1000000) (hz : ∀ x ∈ xs, x.size ≤ 1000000) : ∀ (d i k : Nat), i + d = xs.length → d < k →
    lexer_Major.l0 k n xs (xs.length : Int) (i : Int) = some (if ((xs.drop i).all isSegB) = true then (n, 0) else (0, 4))
  | 0, i, k, hi, hk => by
    obtain ⟨k, rfl⟩ : ∃ q, k = q + 1 := ⟨k - 1, by omega⟩
    rw [lexer_Major.l0, if_neg (by omega), List.drop_eq_nil_of_le (by omega)]; rfl
  | d + 1, i, k, hi, hk => by
    obtain ⟨k, rfl⟩ : ∃ q, k = q + 1 := ⟨k - 1, by omega⟩
    have hlt : i < xs.length := by omega
    have hsz := hz _ (List.getElem_mem hlt)
    have ih := Major_loop n xs hx hz d (i + 1) k (by omega) (by omega)
    rw [lexer_Major.l0, if_pos (by omega), if_pos (by omega), if_pos (by omega), rd_str hlt, IsName_some _ (by omega), Option.bind_some, all_lower_some _ hsz, wr64 (by omega), show ((i : Int) + 1) = ((i + 1 : Nat) : Int) by omega, ih, List.drop_eq_getElem_cons hlt, List.all_cons]
    have hseg : isSegB xs[i] = (isNameB xs[i] && xs[i].data.toList.all fun c => isLower (c.toNat : Int)) := rfl
    rw [hseg]
    cases isNameB xs[i]
    · rfl
    · rw [if_pos rfl, Option.bind_some]
      cases xs[i].data.toList.all fun c => isLower (c.toNat : Int)
      · rfl
      · rw [if_pos rfl]; rfl
/-- the parts of a path. -/
def partsOf (s : ByteArray) : List ByteArray := Lib.splitB ⟨#[47]⟩ 0 (Lib.countB s ⟨#[47]⟩) s
theorem partsOf_list (s : ByteArray) : (partsOf s).map (·.data.toList) = splitL 47 s.data.toList := splitB_list 47 s
theorem splitL_len (c : UInt8) : ∀ l : List UInt8, 1 ≤ (splitL c l).length ∧ (splitL c l).length ≤ l.length + 1
  | [] => by simp [splitL]
  | x :: l => by
    have := splitL_len c l
    unfold splitL
    split
    · simp only [List.length_cons]; omega
    · cases h : splitL c l with
      | nil => exact absurd h (splitL_ne c l)
      | cons a t => rw [h] at this; simp only [consHead, List.length_cons] at *; omega
theorem partsOf_len (s : ByteArray) : 1 ≤ (partsOf s).length ∧ (partsOf s).length ≤ s.size + 1 := by
  have := splitL_len 47 s.data.toList
  rw [← partsOf_list, List.length_map] at this
  exact this
theorem splitL_size (c : UInt8) : ∀ (l : List UInt8), ∀ x ∈ splitL c l, x.length ≤ l.length
  | [], x, h => by simp [splitL] at h; subst h; simp
  | y :: l, x, h => by
    have ih := splitL_size c l
    unfold splitL at h
    split at h
    · rcases List.mem_cons.1 h with rfl | h
      · simp
      · have := ih x h; rw [List.length_cons]; omega
    · cases hs : splitL c l with
      | nil => exact absurd hs (splitL_ne c l)
      | cons a t =>
        rw [hs] at h ih
        rcases List.mem_cons.1 h with rfl | h
        · have := ih a (List.mem_cons_self ..); simp; omega
        · have := ih x (List.mem_cons_of_mem _ h); rw [List.length_cons]; omega
theorem partsOf_size (s : ByteArray) : ∀ x ∈ partsOf s, x.size ≤ s.size := by
  intro x hx
  have := splitL_size 47 s.data.toList x.data.toList (by rw [← partsOf_list]; exact List.mem_map.2 ⟨x, hx, rfl⟩)
  exact this
def lastOf (s : ByteArray) : ByteArray := (partsOf s).getLastD ByteArray.empty
theorem rd_last (s : ByteArray) : rdOf ByteArray.empty (partsOf s) (((partsOf s).length : Int) - 1) = lastOf s := by
  have h := partsOf_len s
  rw [show (((partsOf s).length : Int) - 1) = (((partsOf s).length - 1 : Nat) : Int) by omega, rd_str (by omega)]
  unfold lastOf
  rw [List.getLastD_eq_getLast?, List.getLast?_eq_getElem?, List.getElem?_eq_getElem (by omega)]
  rfl
theorem lastOf_mem (s : ByteArray) : lastOf s ∈ partsOf s := by
  have h := partsOf_len s
  unfold lastOf
  rw [List.getLastD_eq_getLast?, List.getLast?_eq_getElem?, List.getElem?_eq_getElem (by omega)]
  exact List.getElem_mem _
def majorB (s : ByteArray) : Bool := decide (s.size ≤ 64) && (decide (2 ≤ (partsOf s).length) && ((partsOf s).all isSegB && (verR (lastOf s).data.toList).2))
def majorOf (s : ByteArray) : Int × Int := if majorB s = true then ((verR (lastOf s).data.toList).1, 0) else (0, 4)
theorem Major_some (s : ByteArray) (hs : s.size ≤ 100000) (k : Nat) (hk : s.size + 10 ≤ k) : lexer_Major.f k s = some (majorOf s) := by
  have hp := partsOf_len s
  have hlast : (lastOf s).size ≤ s.size := partsOf_size s _ (lastOf_mem s)
  have hsp : strings_Split.f s ⟨#[47]⟩ = some (partsOf s) := by
    unfold strings_Split.f
    rw [if_pos ⟨by omega, by decide⟩]; rfl
  unfold lexer_Major.f
  rw [hsp, Option.bind_some, wr64 (by omega), if_pos (by omega), if_pos (by omega), rd_last, ← ofL_of (lastOf s), version_some _ (by show (lastOf s).size ≤ _; omega) k (by omega), Option.bind_some]
  obtain ⟨k, rfl⟩ : ∃ q, k = q + 1 := ⟨k - 1, by omega⟩
  have jT : ∀ n, lexer_Major.j0 (k + 1) (partsOf s) n true = some (0, 4) := fun n => by rw [lexer_Major.j0, if_pos rfl]
  unfold majorOf majorB
  generalize hv : verR (lastOf s).data.toList = v
  obtain ⟨n, b⟩ := v
  simp only
  cases b
  · rw [if_neg (by simp), jT]; simp
  · rw [if_pos rfl]
    by_cases h64 : s.size ≤ 64
    · rw [if_neg (by omega), decide_eq_true h64]
      by_cases h2 : 2 ≤ (partsOf s).length
      · rw [decide_eq_false (by omega), decide_eq_true h2, lexer_Major.j0, if_neg (by decide)]
        have h := Major_loop n (partsOf s) (by omega) (fun x hx => by have := partsOf_size s x hx; omega) (partsOf s).length 0 k (by omega) (by omega)
        rw [List.drop_zero] at h
        refine h.trans ?_
        cases (partsOf s).all isSegB <;> rfl
      · rw [decide_eq_true (by omega), jT, decide_eq_false h2]; rfl
    · rw [if_pos (by omega), jT, decide_eq_false h64]; rfl
theorem verL_some_range {l : List UInt8} {n : Int} (h : verL l = some n) : 0 ≤ n := by
  cases l with
  | nil => cases h
  | cons c m =>
    rw [verL_cons] at h
    split at h
    · rename_i hc
      injection h with h; subst h
      exact numL_range m 0 (Int.le_refl _) hc.2.2.2.2
    · cases h
end Go.Proofs.YtdccbpeajpnkjaaGreatDoor.Pr
