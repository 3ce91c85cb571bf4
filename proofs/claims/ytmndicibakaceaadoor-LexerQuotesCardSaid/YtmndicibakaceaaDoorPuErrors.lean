/- The plain law of LexerErrors: what the printed function answers is true. -/
import Derived.Test.YtmndicibakaceaaDoorPuToks
import Derived.Test.YtmndicibakaceaaDoorPr21
namespace Go.Proofs.YtmndicibakaceaaDoor.Pr
open Go.RowKit Go.Proofs.YtmndicibakaceaaDoorW.PrintWords Go.Proofs.YtmndicibakaceaaDoorW.PrintLast Go.Proofs.YtmndicibakaceaaDoorW.PrintMore
theorem err_cut : ∀ (k : Nat) (l : List UInt8) (o : Nat) (acc acc' : List S36) (at_ r : Int), l.length < k → skipN false l = 0 → scanToks (toksL k l o) acc = ([], at_, r) → r ≠ 0 →
    ∃ m, at_ = ((o + m : Nat) : Int) ∧ m < l.length ∧ skipN false (l.drop m) = 0 ∧ (nextL (l.drop m)).2.2.2 = r ∧ ∀ k', m < k' → (scanToks (toksL k' (l.take m) o) acc').2.2 = 0
  | 0, _, _, _, _, _, _, h, _, _, _ => by omega
  | k + 1, l, o, acc, acc', at_, r, hk, hs, h, hr => by
    unfold toksL at h
    by_cases hl : l = []
    · rw [if_pos hl] at h
      simp [scanToks] at h
    · rw [if_neg hl] at h
      have hlen : 0 < l.length := List.length_pos_iff.2 hl
      by_cases h0 : (nextL l).2.2.2 = 0
      · rw [if_pos h0] at h
        rw [scanToks, if_pos rfl] at h
        obtain ⟨hn, _⟩ := next_pos h0
        generalize hN : (nextL l).2.2.1 = N at *
        generalize hS : skipN false (l.drop N) = S at *
        have hd : skipN false ((l.drop N).drop S) = 0 := by rw [← hS]; exact skip_done
        have hlen2 : ((l.drop N).drop S).length < k := by rw [List.length_drop, List.length_drop]; omega
        obtain ⟨m, e1, e2, e3, e4, e5⟩ := err_cut k _ _ _ (acc' ++ [⟨(nextL l).1, (nextL l).2.1, o⟩]) _ _ hlen2 hd h hr
        rw [List.length_drop, List.length_drop] at e2
        refine ⟨N + S + m, by rw [e1]; congr 1; omega, by omega, by rw [← List.drop_drop, ← List.drop_drop]; exact e3, by rw [← List.drop_drop, ← List.drop_drop]; exact e4, ?_⟩
        intro k' hk'
        obtain ⟨k'', rfl⟩ : ∃ q, k' = q + 1 := ⟨k' - 1, by omega⟩
        have hc : nextL (l.take (N + S + m)) = nextL l := next_cut h0 (by omega)
        have hne : l.take (N + S + m) ≠ [] := by
          intro hh
          have h6 := congrArg List.length hh
          rw [List.length_take, List.length_nil] at h6
          omega
        unfold toksL
        rw [if_neg hne, hc, if_pos h0, scanToks, if_pos rfl, hN]
        have hd1 : (l.take (N + S + m)).drop N = (l.drop N).take (S + m) := by rw [List.drop_take]; congr 1; omega
        have hs1 : skipN false ((l.drop N).take (S + m)) = S := by rw [skip_cut (by omega), hS]
        rw [hd1, hs1, List.drop_take, show S + m - S = m by omega]
        exact e5 k'' (by omega)
      · rw [if_neg h0] at h
        rw [scanToks, if_neg h0] at h
        injection h with _ h
        injection h with h1 h2
        refine ⟨0, by rw [← h1]; rfl, hlen, by simpa using hs, by simpa using h2, ?_⟩
        intro k' hk'
        obtain ⟨k'', rfl⟩ : ∃ q, k' = q + 1 := ⟨k' - 1, by omega⟩
        simp [toksL, scanToks]
theorem scan_errs : ∀ (l : List (S36 × Int)) (acc : List S36), (scanToks l acc).2.2 ≠ 0 → (scanToks l acc).1 = []
  | [], acc, h => absurd rfl h
  | (t, r) :: l, acc, h => by
    unfold scanToks at h ⊢
    split
    · rw [if_pos (by assumption)] at h; exact scan_errs l _ h
    · rfl
theorem lex_some (s : ByteArray) (hs : s.size ≤ 60000) : lexer_Lex.f s = some (scanToks (toksL (s.size + 1) (s.data.toList.drop (skipN false s.data.toList)) (skipN false s.data.toList)) []) := by
  unfold lexer_Lex.f lexOf
  rw [if_pos (by omega), if_neg (by omega), toks_of]
theorem errors_at (s : ByteArray) (hs : s.size ≤ 1000) (l : List S36) (at_ r : Int) (h : lexer_Lex.f s = some (l, at_, r)) (hr : r ≠ 0) :
    ∃ n : Nat, at_ = n ∧ n < s.size ∧ (∃ l1 i1, lexer_Lex.f (s.extract 0 n) = some (l1, i1, 0)) ∧ ∃ l2, lexer_Lex.f (s.extract n s.size) = some (l2, 0, r) := by
  rw [lex_some s (by omega)] at h
  have h := Option.some.inj h
  have hnil : l = [] := by
    have := scan_errs (toksL (s.size + 1) (s.data.toList.drop (skipN false s.data.toList)) (skipN false s.data.toList)) [] (by rw [h]; exact hr)
    rw [h] at this; exact this
  subst hnil
  have hlen : s.data.toList.length = s.size := rfl
  have hsk := skipN_le false s.data.toList
  generalize hL : s.data.toList = L at *
  generalize hS : skipN false L = S at *
  have hd : skipN false (L.drop S) = 0 := by rw [← hS]; exact skip_done
  obtain ⟨m, e1, e2, e3, e4, e5⟩ := err_cut _ _ _ _ [] _ _ (by rw [List.length_drop]; omega) hd h hr
  rw [List.length_drop] at e2
  rw [List.drop_drop] at e3 e4
  refine ⟨S + m, e1, by omega, ?_, ?_⟩
  · have hz : (s.extract 0 (S + m)).size = S + m := by rw [ByteArray.size_extract]; omega
    have hl1 : (s.extract 0 (S + m)).data.toList = L.take (S + m) := by rw [ext_ofL, ofL_list, hL]; rfl
    have hs1 : skipN false (L.take (S + m)) = S := by rw [skip_cut (by omega), hS]
    rw [lex_some _ (by omega), hz, hl1, hs1, List.drop_take, show S + m - S = m by omega]
    have h5 := e5 (S + m + 1) (by omega)
    generalize scanToks (toksL (S + m + 1) ((L.drop S).take m) S) [] = R at *
    obtain ⟨a, b, c⟩ := R
    exact ⟨a, b, by simpa using h5⟩
  · have hz : (s.extract (S + m) s.size).size = s.size - (S + m) := by rw [ByteArray.size_extract]; omega
    have hl1 : (s.extract (S + m) s.size).data.toList = L.drop (S + m) := by
      rw [ext_ofL, ofL_list, hL, List.take_of_length_le]; rw [List.length_drop]; omega
    rw [lex_some _ (by omega), hz, hl1, e3]
    have hne : L.drop (S + m) ≠ [] := by
      intro hh
      have := congrArg List.length hh
      rw [List.length_drop] at this
      simp at this; omega
    rw [show List.drop 0 (L.drop (S + m)) = L.drop (S + m) from rfl]
    unfold toksL
    rw [if_neg hne, e4, if_neg hr, scanToks, if_neg hr]
    exact ⟨[], rfl⟩
theorem LexerErrors : modcertlaw03_LexerErrors.Pure := by
  intro a0 h0
  by_cases hbig : (a0.size : Int) > 1000
  · refine ⟨0, ?_⟩
    unfold modcertlaw03_LexerErrors.f modcertlaw03_awake.f
    rw [Option.bind_some, if_pos rfl, if_pos hbig]
  · refine ⟨1, ?_⟩
    unfold modcertlaw03_LexerErrors.f modcertlaw03_awake.f
    rw [Option.bind_some, if_pos rfl, if_neg hbig]
    obtain ⟨l, at_, r, hl⟩ : ∃ l at_ r, lexer_Lex.f a0 = some (l, at_, r) := ⟨_, _, _, lex_some a0 (by omega)⟩
    rw [hl, Option.bind_some]
    by_cases hr : r = 0
    · rw [if_pos hr]
    · obtain ⟨n, rfl, hn, ⟨l1, i1, h1⟩, l2, h2⟩ := errors_at a0 (by omega) l at_ r hl hr
      rw [if_neg hr, if_neg (by show ¬ ((n : Int) < 0); omega)]
      have hd : decide ((n : Int) ≥ (a0.size : Int)) = false := decide_eq_false (by omega)
      show modcertlaw03_LexerErrors.j0 1 a0 (n : Int) r (decide ((n : Int) ≥ (a0.size : Int))) = some true
      rw [hd]
      rw [modcertlaw03_LexerErrors.j0, if_neg (show ¬ (false = true) by decide), if_pos (by omega), if_pos (by omega), Int.toNat_natCast, h1, Option.bind_some, h2, Option.bind_some, if_pos rfl, if_pos rfl]
      rfl
end Go.Proofs.YtmndicibakaceaaDoor.Pr
