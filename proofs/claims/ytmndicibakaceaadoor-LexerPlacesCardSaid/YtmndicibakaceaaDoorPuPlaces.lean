/- The plain law of LexerPlaces: what the printed function answers is true. -/
import Derived.Test.YtmndicibakaceaaDoorPuLex
import Derived.Test.YtmndicibakaceaaDoorPr19
namespace Go.Proofs.YtmndicibakaceaaDoor.Pr
open Go.RowKit Go.Proofs.YtmndicibakaceaaDoorW.PrintWords Go.Proofs.YtmndicibakaceaaDoorW.PrintLast Go.Proofs.YtmndicibakaceaaDoorW.PrintMore
/-- the line and the column behind i bytes. -/
def posI (s : ByteArray) : Nat → Int × Int
  | 0 => (1, 1)
  | i + 1 => if bt s i = 10 then ((posI s i).1 + 1, 1) else ((posI s i).1, (posI s i).2 + 1)
theorem posI_range (s : ByteArray) : ∀ i : Nat, 1 ≤ (posI s i).1 ∧ (posI s i).1 ≤ i + 1 ∧ 1 ≤ (posI s i).2 ∧ (posI s i).2 ≤ i + 1
  | 0 => by unfold posI; simp
  | i + 1 => by
    have := posI_range s i
    unfold posI
    split
    · simp only; omega
    · simp only; omega
theorem refPos_loop (s : ByteArray) (hs : s.size ≤ 100000) (off : Int) (N : Nat) (hN : (N : Int) = mn (mx off 0) (s.size : Int)) : ∀ (d i k : Nat), i + d = N → 2 * d + 2 ≤ k →
    modcertref03_Position.l0 k s off (posI s i).1 (posI s i).2 (i : Int) = some (posI s N) := by
  have hle : N ≤ s.size ∧ (∀ i : Nat, i < N → (i : Int) < off) ∧ (N < s.size → off ≤ (N : Int)) := by
    unfold mn mx at hN
    split at hN <;> split at hN <;> refine ⟨by omega, fun i hi => by omega, fun h => by omega⟩
  intro d
  induction d with
  | zero =>
    intro i k hi hk
    obtain ⟨k, rfl⟩ : ∃ q, k = q + 2 := ⟨k - 2, by omega⟩
    obtain rfl : i = N := by omega
    rw [modcertref03_Position.l0]
    by_cases h : i < s.size
    · rw [if_pos (by omega), decide_eq_false (by have := hle.2.2 h; omega), modcertref03_Position.j1, if_neg (by decide)]
    · rw [if_neg (by omega), modcertref03_Position.j1, if_neg (by decide)]
  | succ d ih =>
    intro i k hi hk
    obtain ⟨k, rfl⟩ : ∃ q, k = q + 2 := ⟨k - 2, by omega⟩
    have hr := posI_range s i
    have h := ih (i + 1) k (by omega) (by omega)
    rw [modcertref03_Position.l0, if_pos (by omega), decide_eq_true (hle.2.1 i (by omega)), modcertref03_Position.j1, if_pos rfl, if_pos (by omega), if_pos (by omega), wr64 (n := (i : Int) + 1) (by omega), wr64 (n := (posI s i).1 + 1) (by omega), wr64 (n := (posI s i).2 + 1) (by omega)]
    rw [posI] at h
    split
    · rename_i hb
      rw [if_pos hb] at h; exact h
    · rename_i hb
      rw [if_neg hb] at h; exact h
theorem bt_head (s : ByteArray) (n i : Nat) (hn : n ≤ s.size) (hi : i < n) : bt (s.extract 0 n) (i : Int) = bt s (i : Int) := by
  have hz : (s.extract 0 n).size = n := by rw [ByteArray.size_extract]; omega
  rw [bt_cast _ i (by omega), bt_cast s i (by omega)]
  congr 2
  have h : (s.extract 0 n).data.toList = s.data.toList.take n := by rw [ext_ofL, ofL_list]; rfl
  simp only [h, List.getElem_take]
theorem lastN_congr (a b : ByteArray) (c : Int) : ∀ m : Nat, (∀ i : Nat, i < m → bt a (i : Int) = bt b (i : Int)) → lastN a c m = lastN b c m
  | 0, _ => rfl
  | m + 1, h => by rw [lastN, lastN, h m (by omega), lastN_congr a b c m (fun i hi => h i (by omega))]
theorem pos_is (s : ByteArray) : ∀ n : Nat, n ≤ s.size → 1 + ((s.data.toList.take n).count 10 : Int) = (posI s n).1 ∧ (n : Int) - lastN s 10 n = (posI s n).2
  | 0, _ => ⟨rfl, rfl⟩
  | n + 1, h => by
    obtain ⟨h1, h2⟩ := pos_is s n (by omega)
    obtain ⟨c, l, hd, hb, hl⟩ := drop_cons (s := s) (i := n) (by omega)
    have ht : s.data.toList.take (n + 1) = s.data.toList.take n ++ [c] := by
      rw [List.take_add_one, ← List.head?_drop, hd]; rfl
    rw [ht, List.count_append, posI, lastN, hb]
    by_cases hc : c = 10
    · subst hc
      rw [if_pos (by decide), if_pos (by decide)]
      simp only [List.count_cons_self, List.count_nil]
      constructor
      · omega
      · omega
    · have hne : ¬ (c.toNat : Int) = 10 := fun h => hc (UInt8.toNat_inj.1 (show c.toNat = 10 by omega))
      rw [if_neg hne, if_neg hne, List.count_cons_of_ne (by simpa using hc), List.count_nil]
      constructor
      · simp only; omega
      · simp only; omega
theorem Pos_some (s : ByteArray) (hs : s.size ≤ 100000) (off : Int) (N k : Nat) (hN : (N : Int) = mn (mx off 0) (s.size : Int)) (hk : s.size < k) : lexer_Position.f k s off = some (posI s N) := by
  have hle : N ≤ s.size := by unfold mn at hN; split at hN <;> omega
  have hz : (s.extract 0 N).size = N := by rw [ByteArray.size_extract]; omega
  have hp := pos_is s N hle
  have hr := posI_range s N
  have hl : lastN (s.extract 0 N) 10 N = lastN s 10 N := lastN_congr _ _ 10 N (fun i hi => bt_head s N i hle hi)
  have hx : (s.extract 0 N).data.toList = s.data.toList.take N := by rw [ext_ofL, ofL_list]; rfl
  have e1 : strings_Count.f (s.extract 0 N) ⟨#[10]⟩ = some ((s.data.toList.take N).count 10 : Int) := by
    show some ((Lib.countByte (s.extract 0 N).data.toList 10 : Nat) : Int) = _
    rw [hx]; rfl
  have e2 : strings_LastIndexByte.f k (s.extract 0 N) 10 = some (lastN s 10 N) := by
    have h := last_some (s.extract 0 N) 10 (by omega)
    rw [hz, hl] at h
    exact at_rounds (fun k => strings_LastIndexByte.mono _ _ k) (by omega) h
  unfold lexer_Position.f
  rw [← hN, if_pos (by omega), if_pos (by omega), Int.toNat_natCast, e1, Option.bind_some, e2, Option.bind_some, hz, wr64 (by omega), wr64 (by omega), hp.1, hp.2]
theorem tdiv16 {c : Int} (h : 0 ≤ c) : Int.tdiv c 16 = c / 16 := Int.tdiv_eq_ediv_of_nonneg h
theorem tmod16 {c : Int} (h : 0 ≤ c) : Int.tmod c 16 = c % 16 := Int.tmod_eq_emod_of_nonneg h
theorem refQ_step (s : ByteArray) (acc : List Int) (i c : Int) (k : Nat) (h0 : 0 ≤ c) (h1 : c ≤ 255) (hl : acc.length ≤ 1000000) :
    (if c = 34 then modcertref03_Quote.j1 (k + 1) s hexDigits acc i c true else modcertref03_Quote.j1 (k + 1) s hexDigits acc i c (c == 92)) = modcertref03_Quote.l0 k s hexDigits (acc ++ qByte c) (wrap64 (i + 1)) := by
  have hz : (hexDigits.size : Int) = 16 := rfl
  have hj : c = 34 ∨ c = 92 → modcertref03_Quote.j1 (k + 1) s hexDigits acc i c true = modcertref03_Quote.l0 k s hexDigits (acc ++ qByte c) (wrap64 (i + 1)) := fun hc => by
    rw [modcertref03_Quote.j1, if_pos rfl, Option.bind_some, if_pos (by simp; omega)]
    unfold qByte
    rw [if_pos hc]
  by_cases c34 : c = 34
  · rw [if_pos c34]; exact hj (.inl c34)
  · rw [if_neg c34]
    by_cases c92 : c = 92
    · rw [beq_iff_eq.2 c92]; exact hj (.inr c92)
    · have hn : ¬ (c = 34 ∨ c = 92) := by omega
      rw [beq_eq_false_iff_ne.2 c92, modcertref03_Quote.j1, if_neg (by decide)]
      unfold qByte
      rw [if_neg hn]
      by_cases c10 : c = 10
      · rw [if_pos c10, if_pos c10, Option.bind_some, if_pos (by simp; omega)]
      · rw [if_neg c10, if_neg c10, tdiv16 h0, tmod16 h0, hz, show c / 16 % 256 = c / 16 by omega]
        by_cases c3 : c ≥ 32
        · rw [if_pos c3]
          by_cases c4 : c ≤ 126
          · rw [if_pos c4, if_pos (show 32 ≤ c ∧ c ≤ 126 from ⟨c3, c4⟩), if_pos (by omega)]
          · rw [if_neg c4, if_neg (show ¬ (32 ≤ c ∧ c ≤ 126) by omega), if_pos (by omega), if_pos (by omega), if_pos (by omega), if_pos (by omega), Option.bind_some, if_pos (by simp; omega)]
        · rw [if_neg c3, if_neg (show ¬ (32 ≤ c ∧ c ≤ 126) by omega), if_pos (by omega), if_pos (by omega), if_pos (by omega), if_pos (by omega), Option.bind_some, if_pos (by simp; omega)]
theorem refQ_loop (s : ByteArray) (hs : s.size ≤ 100000) : ∀ (d i k : Nat), i + d = s.size → 2 * d + 2 ≤ k → modcertref03_Quote.l0 k s hexDigits (qUpto s i) (i : Int) = some (strOfNums (quoteI s)) := by
  intro d
  induction d with
  | zero =>
    intro i k hi hk
    obtain ⟨k, rfl⟩ : ∃ q, k = q + 1 := ⟨k - 1, by omega⟩
    obtain rfl : i = s.size := by omega
    have := qUpto_len s s.size
    rw [modcertref03_Quote.l0, if_neg (by omega), if_pos (by omega)]; rfl
  | succ d ih =>
    intro i k hi hk
    obtain ⟨k, rfl⟩ : ∃ q, k = q + 2 := ⟨k - 2, by omega⟩
    have hl := qUpto_len s i
    have h := ih (i + 1) k (by omega) (by omega)
    rw [modcertref03_Quote.l0, if_pos (by omega), if_pos (by omega), refQ_step s _ _ _ k (bt_range s i).1 (bt_range s i).2 (by omega), wr64 (by omega)]
    exact h
theorem refQuote_some (s : ByteArray) (hs : s.size ≤ 100000) (k : Nat) (hk : 2 * s.size + 2 ≤ k) : modcertref03_Quote.f k s = some (strOfNums (quoteI s)) :=
  refQ_loop s hs s.size 0 k (by omega) hk
theorem LexerPlaces : modcertlaw03_LexerPlaces.Pure := by
  intro a0 a1 h0 h1
  refine ⟨3000, ?_⟩
  unfold modcertlaw03_LexerPlaces.f modcertlaw03_awake.f
  rw [Option.bind_some, if_pos rfl]
  by_cases hbig : (a0.size : Int) > 1000
  · rw [if_pos hbig]
  · obtain ⟨N, hN⟩ : ∃ N : Nat, (N : Int) = mn (mx a1 0) (a0.size : Int) := by
      refine ⟨(mn (mx a1 0) (a0.size : Int)).toNat, ?_⟩
      unfold mn mx
      split <;> split <;> omega
    have hP := Pos_some a0 (by omega) a1 N 3000 hN (by omega)
    have hle : N ≤ a0.size := by unfold mn at hN; split at hN <;> omega
    have hR : modcertref03_Position.f 3000 a0 a1 = some (posI a0 N) := refPos_loop a0 (by omega) a1 N hN N 0 3000 (by omega) (by omega)
    have hq : lexer_Quote.f a0 = some (strOfNums (quoteI a0)) := if_pos (by omega)
    have hq2 : modcertref03_Quote.f 3000 a0 = some (strOfNums (quoteI a0)) := refQuote_some a0 (by omega) 3000 (by omega)
    rw [if_neg hbig, hP, Option.bind_some, hR, Option.bind_some, hq, Option.bind_some, hq2, Option.bind_some, if_pos rfl, if_pos rfl]
    simp
end Go.Proofs.YtmndicibakaceaaDoor.Pr
