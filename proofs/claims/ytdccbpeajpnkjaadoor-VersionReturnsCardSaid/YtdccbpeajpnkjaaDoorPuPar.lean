/- version.Parse told of lists of bytes, and the reference's Parse against it; condition: a text of at most 300 bytes. -/
import Derived.Test.YtdccbpeajpnkjaaDoorPuSpl
import Derived.Test.YtdccbpeajpnkjaaDoorPuDig
import Derived.Test.YtdccbpeajpnkjaaDoorPr7
namespace Go.Proofs.YtdccbpeajpnkjaaDoor.Pr
open Go.RowKit Go.Proofs.YtdccbpeajpnkjaaDoorW.PrintWords Go.Proofs.YtdccbpeajpnkjaaDoorW.PrintLast Go.Proofs.YtdccbpeajpnkjaaDoorW.PrintMore
/-- the number of a word, behind d digits that say n. -/
def scanW : Int → Int → List UInt8 → Option Int
  | n, d, [] => if d = 0 then none else some n
  | n, d, c :: r => if c.toNat < 48 ∨ 57 < c.toNat ∨ d = 3 ∨ (0 < d ∧ n = 0) then none else scanW (10 * n + ((c.toNat : Int) - 48)) (d + 1) r
def finish : List Int → Int × Int × Int × Int
  | [x, y, z] => (x, y, z, 0)
  | _ => (0, 0, 0, 3)
def wordsR : List Int → Int → Int → List (List UInt8) → Int × Int × Int × Int
  | _, _, _, [] => (0, 0, 0, 3)
  | acc, n, d, [w] => match scanW n d w with | none => (0, 0, 0, 3) | some m => finish (acc ++ [m])
  | acc, n, d, w :: v :: ws => match scanW n d w with | none => (0, 0, 0, 3) | some m => wordsR (acc ++ [m]) 0 0 (v :: ws)
theorem bt_drop {s : ByteArray} {i : Nat} {c : UInt8} {r : List UInt8} (h : s.data.toList.drop i = c :: r) : i < s.size ∧ bt s (i : Int) = (c.toNat : Int) ∧ s.data.toList.drop (i + 1) = r := by
  have hlt : i < s.data.toList.length := by
    rcases Nat.lt_or_ge i s.data.toList.length with h1 | h1
    · exact h1
    · rw [List.drop_eq_nil_of_le h1] at h; cases h
  have hs : i < s.size := by simpa using hlt
  have hd := List.drop_eq_getElem_cons hlt
  rw [h] at hd
  injection hd with h1 h2
  refine ⟨hs, ?_, h2.symm⟩
  unfold bt
  rw [dif_pos (show ((i : Int)).toNat < s.size by simpa using hs)]
  rw [h1]
  simp only [Int.toNat_natCast, Array.getElem_toList]
  rfl
theorem finish_eq (l : List Int) : (if (l.length : Int) = 3 then (if 0 < (l.length : Int) then (if 1 < (l.length : Int) then (if 2 < (l.length : Int) then (some (rd l 0, rd l 1, rd l 2, (0 : Int))) else (none)) else (none)) else (none)) else (some (0, 0, 0, 3))) = some (finish l) := by
  match l with
  | [] => rfl
  | [_] => rfl
  | [_, _] => rfl
  | [x, y, z] => rfl
  | _ :: _ :: _ :: _ :: r =>
    rw [if_neg (by simp; omega)]
    rfl
theorem wordsR_nil (acc : List Int) (n d : Int) : wordsR acc n d [[]] = if d = 0 then (0, 0, 0, 3) else finish (acc ++ [n]) := by
  unfold wordsR scanW
  by_cases h : d = 0
  · rw [if_pos h, if_pos h]
  · rw [if_neg h, if_neg h]
theorem wordsR_point (acc : List Int) (n d : Int) (v : List UInt8) (ws : List (List UInt8)) : wordsR acc n d ([] :: v :: ws) = if d = 0 then (0, 0, 0, 3) else wordsR (acc ++ [n]) 0 0 (v :: ws) := by
  rw [wordsR]
  unfold scanW
  by_cases h : d = 0
  · rw [if_pos h, if_pos h]
  · rw [if_neg h, if_neg h]
theorem wordsR_bad (acc : List Int) (n d : Int) (c : UInt8) (w : List UInt8) (ws : List (List UInt8)) (h : c.toNat < 48 ∨ 57 < c.toNat ∨ d = 3 ∨ (0 < d ∧ n = 0)) : wordsR acc n d ((c :: w) :: ws) = (0, 0, 0, 3) := by
  have hs : scanW n d (c :: w) = none := by unfold scanW; rw [if_pos h]
  cases ws <;> (rw [wordsR]; rw [hs])
theorem wordsR_good (acc : List Int) (n d : Int) (c : UInt8) (w : List UInt8) (ws : List (List UInt8)) (h : ¬ (c.toNat < 48 ∨ 57 < c.toNat ∨ d = 3 ∨ (0 < d ∧ n = 0))) : wordsR acc n d ((c :: w) :: ws) = wordsR acc (10 * n + ((c.toNat : Int) - 48)) (d + 1) (w :: ws) := by
  have hs : scanW n d (c :: w) = scanW (10 * n + ((c.toNat : Int) - 48)) (d + 1) w := by rw [scanW, if_neg h]
  cases ws <;> (rw [wordsR, wordsR]; rw [hs])
theorem ref_parse (s : ByteArray) (hsz : s.size ≤ 300) : ∀ (r : List UInt8) (i : Nat) (acc : List Int) (n d : Int) (k : Nat), s.data.toList.drop i = r → i ≤ s.size → acc.length ≤ i → (0 ≤ d ∧ d ≤ 3) → (0 ≤ n ∧ n ≤ 999 ∧ (d ≤ 0 → n ≤ 0) ∧ (d ≤ 1 → n ≤ 9) ∧ (d ≤ 2 → n ≤ 99)) →
    modcertref24_Parse.l0 (2 * r.length + k + 3) s acc n d (i : Int) = some (wordsR acc n d (splitL 46 r))
  | [], i, acc, n, d, k, hd, hi, ha, hdd, hnn => by
    have hl : i = s.size := by
      have := congrArg List.length hd
      simp at this; omega
    rw [show 2 * ([] : List UInt8).length + k + 3 = (k + 2) + 1 from by simp, modcertref24_Parse.l0, if_pos (by omega), if_pos (by omega), show k + 2 = (k + 1) + 1 from rfl, modcertref24_Parse.j1, if_pos rfl]
    rw [show splitL 46 [] = [[]] from rfl, wordsR_nil]
    by_cases h0 : d = 0
    · rw [if_pos h0, if_pos h0]
    · rw [if_neg h0, if_neg h0, if_pos (by omega), show wrap64 ((i : Int) + 1) = (i : Int) + 1 from by unfold wrap64; omega, modcertref24_Parse.l0, if_neg (by omega), finish_eq]
  | c :: r, i, acc, n, d, k, hd, hi, ha, hdd, hnn => by
    obtain ⟨hlt, hb, hr⟩ := bt_drop hd
    rw [show 2 * (c :: r).length + k + 3 = (2 * r.length + k + 4) + 1 from by simp; omega, modcertref24_Parse.l0, if_pos (by omega), if_neg (by omega), if_pos (by omega), if_pos (by omega), hb, show 2 * r.length + k + 4 = (2 * r.length + k + 3) + 1 from rfl, modcertref24_Parse.j1, hb]
    have hw : wrap64 ((i : Int) + 1) = ((i + 1 : Nat) : Int) := by unfold wrap64; omega
    obtain ⟨w, ws, hws⟩ : ∃ w ws, splitL 46 r = w :: ws := by
      match h : splitL 46 r with
      | [] => exact absurd h (splitL_ne 46 r)
      | w :: ws => exact ⟨w, ws, rfl⟩
    by_cases hc : c = 46
    · subst hc
      rw [if_pos (by rfl), show splitL 46 ((46 : UInt8) :: r) = [] :: splitL 46 r from by simp [splitL], hws, wordsR_point]
      by_cases h0 : d = 0
      · rw [if_pos h0, if_pos h0]
      · rw [if_neg h0, if_neg h0, if_pos (by omega), hw, ← hws]
        exact ref_parse s hsz r (i + 1) (acc ++ [n]) 0 0 k hr (by omega) (by simp; omega) (by omega) (by omega)
    · have hcn : ¬ ((c.toNat : Int) == 46) = true := fun e => hc (UInt8.toNat_inj.1 (by have h46 := eq_of_beq e; show c.toNat = 46; omega))
      rw [if_neg hcn, if_pos (by omega), if_pos (by omega), show splitL 46 (c :: r) = consHead c (splitL 46 r) from by simp [splitL, hc], hws, show consHead c (w :: ws) = (c :: w) :: ws from rfl]
      have hc255 := UInt8.toNat_lt c
      by_cases b1 : (c.toNat : Int) < 48
      · rw [if_pos b1, wordsR_bad _ _ _ _ _ _ (.inl (by omega))]
      · rw [if_neg b1]
        by_cases b2 : (c.toNat : Int) > 57
        · rw [if_pos b2, wordsR_bad _ _ _ _ _ _ (.inr (.inl (by omega)))]
        · rw [if_neg b2]
          by_cases b3 : d = 3
          · rw [if_pos b3, wordsR_bad _ _ _ _ _ _ (.inr (.inr (.inl b3)))]
          · rw [if_neg b3]
            have e1 : wrap64 (10 * n) = 10 * n := by unfold wrap64; omega
            have e2 : wrap64 (d + 1) = d + 1 := by unfold wrap64; omega
            have e3 : ((c.toNat : Int) - 48) % 256 = (c.toNat : Int) - 48 := by omega
            have e4 : wrap64 (10 * n + ((c.toNat : Int) - 48)) = 10 * n + ((c.toNat : Int) - 48) := by unfold wrap64; omega
            rw [e1, e2, e3, e4, hw]
            have hgo := ref_parse s hsz r (i + 1) acc (10 * n + ((c.toNat : Int) - 48)) (d + 1) k hr (by omega) (by omega) (by omega)
            by_cases b4 : d > 0
            · rw [if_pos b4]
              by_cases b5 : n = 0
              · rw [if_pos b5, wordsR_bad _ _ _ _ _ _ (.inr (.inr (.inr ⟨b4, b5⟩)))]
              · rw [if_neg b5, wordsR_good _ _ _ _ _ _ (by omega), ← hws]
                exact hgo (by omega)
            · rw [if_neg b4, wordsR_good _ _ _ _ _ _ (by omega), ← hws]
              exact hgo (by omega)
theorem digits_from (s : ByteArray) (h : ∀ i, i < s.size → 48 ≤ (s.get! i).toNat ∧ (s.get! i).toNat ≤ 57) : ∀ (f pos : Nat), Lib.idxFuncFrom oddRune true s f pos = -1
  | 0, _ => rfl
  | f + 1, pos => by
    unfold Lib.idxFuncFrom
    by_cases hp : pos < s.size
    · have hb := h pos hp
      rw [if_pos hp, Lib.decode_at, Lib.decodeN_ascii _ _ _ _ _ (by omega), if_neg (by unfold oddRune; simp; omega)]
      exact digits_from s h f (pos + 1)
    · rw [if_neg hp]
theorem get_list (q : ByteArray) (i : Nat) (hi : i < q.size) : q.data.toList[i]'(by simpa using hi) = q.get! i := by
  show _ = q.data[i]!
  rw [getElem!_pos q.data i hi, Array.getElem_toList]
theorem odd_iff (q : ByteArray) : oddText q = false ↔ ∀ b ∈ q.data.toList, 48 ≤ b.toNat ∧ b.toNat ≤ 57 := by
  constructor
  · exact mem_digit
  · intro h
    unfold oddText Lib.idxFunc
    rw [digits_from q (fun i hi => by
      have := h _ (List.getElem_mem (l := q.data.toList) (n := i) (by simpa using hi))
      rw [get_list q i hi] at this
      exact this)]
    rfl
theorem wordOk_list (q : ByteArray) : wordOk q = okL q.data.toList := by
  unfold wordOk okL
  have hl : q.data.toList.length = q.size := by simp
  have ho : (!oddText q) = q.data.toList.all fun b => decide (48 ≤ b.toNat) && decide (b.toNat ≤ 57) := by
    rw [Bool.eq_iff_iff]
    simp only [Bool.not_eq_true', List.all_eq_true, Bool.and_eq_true, decide_eq_true_eq]
    exact odd_iff q
  rw [hl, ho]
  by_cases h1 : 1 < q.size
  · have h0 : q.data[0]! = q.data.toList.getD 0 0 := by
      rw [getElem!_pos q.data 0 (by show 0 < q.size; omega), List.getD, List.getElem?_eq_getElem (by rw [hl]; omega), Array.getElem_toList]
      rfl
    rw [h0]
  · rw [decide_eq_false h1]; rfl
/-- may this byte stand behind d digits that say n? -/
def badC (n d : Int) (c : UInt8) : Prop := c.toNat < 48 ∨ 57 < c.toNat ∨ d = 3 ∨ (0 < d ∧ n = 0)
theorem scan_bad {n d : Int} {c : UInt8} {r : List UInt8} (h : badC n d c) : scanW n d (c :: r) = none := by rw [scanW]; exact if_pos h
theorem scan_good {n d : Int} {c : UInt8} {r : List UInt8} (h : ¬ badC n d c) : scanW n d (c :: r) = scanW (10 * n + ((c.toNat : Int) - 48)) (d + 1) r := by rw [scanW]; exact if_neg h
theorem bad_first {c : UInt8} : badC 0 0 c ↔ ¬ digC c := by unfold badC digC; omega
theorem bad_later {n d : Int} {c : UInt8} (h0 : 0 < d) (h3 : d ≠ 3) : badC n d c ↔ ¬ (digC c ∧ n ≠ 0) := by unfold badC digC; omega
theorem bad_full {n : Int} {c : UInt8} : badC n 3 c := by unfold badC; omega
theorem scan_word : ∀ l : List UInt8, scanW 0 0 l = if okL l = true then some ((Lib.atoi l).getD 0) else none
  | [] => rfl
  | [a] => by
    by_cases ha : digC a
    · rw [scan_good (fun h => (bad_first.1 h) ha), if_pos ((okL_one a).2 ha), atoi_1 ha]
      simp [scanW]
    · rw [scan_bad (bad_first.2 ha), if_neg (fun h => ha ((okL_one a).1 h))]
  | [a, b] => by
    by_cases ha : digC a
    · rw [scan_good (fun h => (bad_first.1 h) ha)]
      by_cases hb : digC b ∧ a ≠ 48
      · have h0 : 10 * (0 : Int) + ((a.toNat : Int) - 48) ≠ 0 := by have := not48.1 hb.2; omega
        rw [scan_good (fun h => ((bad_later (by omega) (by omega)).1 h) ⟨hb.1, h0⟩), if_pos ((okL_two a b).2 ⟨⟨ha, hb.1⟩, hb.2⟩), atoi_2 ha hb.1]
        simp [scanW]
      · rw [scan_bad ((bad_later (by omega) (by omega)).2 (fun h => hb ⟨h.1, not48.2 (by have := h.2; omega)⟩)), if_neg (fun h => hb ⟨((okL_two a b).1 h).1.2, ((okL_two a b).1 h).2⟩)]
    · rw [scan_bad (bad_first.2 ha), if_neg (fun h => ha ((okL_two a b).1 h).1.1)]
  | a :: b :: c :: r => by
    have hno : ¬ (digC a ∧ digC b ∧ digC c ∧ a ≠ 48 ∧ r = []) → okL (a :: b :: c :: r) = false := fun h => by
      cases r with
      | nil => exact Bool.eq_false_iff.2 fun e => h (by have := (okL_three a b c).1 e; exact ⟨this.1.1, this.1.2.1, this.1.2.2, this.2, rfl⟩)
      | cons d r => exact okL_more a b c d r
    by_cases ha : digC a
    · rw [scan_good (fun h => (bad_first.1 h) ha)]
      by_cases hb : digC b ∧ a ≠ 48
      · have h0 : 10 * (0 : Int) + ((a.toNat : Int) - 48) ≠ 0 := by have := not48.1 hb.2; omega
        rw [scan_good (fun h => ((bad_later (by omega) (by omega)).1 h) ⟨hb.1, h0⟩)]
        have ha' := ha
        have hb' := hb.1
        unfold digC at ha' hb'
        by_cases hc : digC c
        · have h1 : 10 * (10 * (0 : Int) + ((a.toNat : Int) - 48)) + ((b.toNat : Int) - 48) ≠ 0 := by omega
          rw [scan_good (fun h => ((bad_later (by omega) (by omega)).1 h) ⟨hc, h1⟩)]
          cases r with
          | nil =>
            rw [if_pos ((okL_three a b c).2 ⟨⟨ha, hb.1, hc⟩, hb.2⟩), atoi_3 ha hb.1 hc]
            simp [scanW]
          | cons d r =>
            rw [scan_bad (by rw [show (0 : Int) + 1 + 1 + 1 = 3 from rfl]; exact bad_full), okL_more]
            rfl
        · rw [scan_bad ((bad_later (by omega) (by omega)).2 (fun h => hc h.1)), hno (fun h => hc h.2.2.1)]
          rfl
      · rw [scan_bad ((bad_later (by omega) (by omega)).2 (fun h => hb ⟨h.1, not48.2 (by have := h.2; omega)⟩)), hno (fun h => hb ⟨h.2.1, h.2.2.2.1⟩)]
        rfl
    · rw [scan_bad (bad_first.2 ha), hno (fun h => ha h.1)]
      rfl
theorem scan_q (q : ByteArray) : scanW 0 0 q.data.toList = if wordOk q = true then some (numOf q) else none := by
  rw [scan_word, wordOk_list]; rfl
theorem words_all : ∀ (ws : List ByteArray) (acc : List Int), ws ≠ [] → wordsR acc 0 0 (ws.map (·.data.toList)) = if ws.all wordOk = true then finish (acc ++ ws.map numOf) else (0, 0, 0, 3)
  | [], _, h => absurd rfl h
  | [q], acc, _ => by
    show wordsR acc 0 0 [q.data.toList] = _
    rw [wordsR, scan_q]
    by_cases h : wordOk q = true
    · rw [if_pos h, if_pos (by simpa using h)]; rfl
    · rw [if_neg h, if_neg (by simpa using h)]
  | q :: v :: ws, acc, _ => by
    show wordsR acc 0 0 (q.data.toList :: v.data.toList :: ws.map (·.data.toList)) = _
    rw [wordsR, scan_q]
    by_cases h : wordOk q = true
    · rw [if_pos h]
      show wordsR (acc ++ [numOf q]) 0 0 ((v :: ws).map (·.data.toList)) = _
      rw [words_all (v :: ws) (acc ++ [numOf q]) (by simp)]
      rw [show (q :: v :: ws).all wordOk = (v :: ws).all wordOk from by rw [List.all_cons, h, Bool.true_and]]
      simp
    · rw [if_neg h, if_neg (by simp [h])]
theorem parse3_words (ws : List ByteArray) : parse3 ws = if ws.all wordOk = true then finish (ws.map numOf) else (0, 0, 0, 3) := by
  match ws with
  | [] => rfl
  | [_] => simp [parse3, finish]
  | [_, _] => simp [parse3, finish]
  | [x, y, z] => simp [parse3, finish]
  | _ :: _ :: _ :: _ :: r => simp [parse3, finish]
/-- Parse and the reference's Parse answer the same. -/
theorem parse_same (s : ByteArray) (hsz : s.size ≤ 300) (k : Nat) (hk : 2 * s.size + 3 ≤ k) : modcertref24_Parse.f k s = some (parse3 (dots s)) := by
  obtain ⟨j, rfl⟩ : ∃ j, k = 2 * s.data.toList.length + j + 3 := ⟨k - 3 - 2 * s.data.toList.length, by simp; omega⟩
  unfold modcertref24_Parse.f
  refine (ref_parse s hsz s.data.toList 0 [] 0 0 j rfl (Nat.zero_le _) (Nat.le_refl _) (by omega) (by omega)).trans ?_
  rw [← splitB_list]
  show some (wordsR [] 0 0 ((dots s).map (·.data.toList))) = _
  rw [words_all _ _ (by
    intro h
    have := splitB_list 46 s
    rw [show Lib.splitB ⟨#[46]⟩ 0 (Lib.countB s ⟨#[46]⟩) s = [] from h] at this
    exact splitL_ne 46 s.data.toList this.symm), parse3_words]
  rfl


end Go.Proofs.YtdccbpeajpnkjaaDoor.Pr
